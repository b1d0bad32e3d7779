/- The reference's functions on small numbers. Conditions: none. -/
import Derived.Test.YtfhifkcbdpgomaaRM
namespace Go.Proofs.Ytfhifkcbdpgomaa
set_option linter.unusedSimpArgs false
set_option linter.unusedVariables false
open Go.RowKit
set_option maxRecDepth 20000

def In29 (x : Int) : Prop := -536870912 ≤ x ∧ x ≤ 536870912
theorem mul29 {x y : Int} (hx : In29 x) (hy : In29 y) : -288230376151711744 ≤ x * y ∧ x * y ≤ 288230376151711744 := by
  unfold In29 at *
  have h : (x * y).natAbs ≤ 536870912 * 536870912 := by rw [Int.natAbs_mul]; exact Nat.mul_le_mul (by omega) (by omega)
  omega
theorem ev_rgcd (a b : Nat) : Ev Try.prog 40 [.sc (.int .i64 (a : Int)), .sc (.int .i64 (b : Int))] (.sc (.int .i64 ((Nat.gcd a b : Nat) : Int))) := by
  refine ev_fn Try.func40 comp40 (show 2 ≤ Try.f40.ntmps by decide) ?_; unfold cf40 rf40; simp only [↓EVP0, EVQ0, EVQ1, EVQ2, EVQ3, EVQ4, EVA, EVK, EVFR, ↓reduceIte, Nat.reduceEqDiff, Nat.reduceAdd, Nat.reduceSub, Nat.reduceMul, Nat.reduceLT, Nat.reduceLeDiff, reduceCtorEq, Int.reduceToNat, Int.reduceLT, Int.reduceLE, Int.reduceAdd, Int.reduceSub, Int.reduceMul, Int.reduceNeg, Int.reduceEq, Nat.reduceMod, forall_eq_or_imp, forall_eq, forall_const, cond_true, cond_false, decide_true, decide_false, true_imp_iff, implies_true, Int.cast_ofNat_Int, forall_eq']
  refine lwp_loop (α := Nat × Nat) (fun q => Nat.gcd q.1 q.2 = Nat.gcd a b) (fun q => [(0, .sc (.int .i64 (q.1 : Int))), (1, .sc (.int .i64 (q.2 : Int)))]) (fun _ => []) (fun q => q.2) (a, b) rfl ?_ (fun _ => Nat.zero_le _) ?_
  · simp only [↓EVP0, EVQ0, EVQ1, EVQ2, EVQ3, EVQ4, EVA, EVK, EVFR, ↓reduceIte, Nat.reduceEqDiff, Nat.reduceAdd, Nat.reduceSub, Nat.reduceMul, Nat.reduceLT, Nat.reduceLeDiff, reduceCtorEq, Int.reduceToNat, Int.reduceLT, Int.reduceLE, Int.reduceAdd, Int.reduceSub, Int.reduceMul, Int.reduceNeg, Int.reduceEq, Nat.reduceMod, forall_eq_or_imp, forall_eq, forall_const, cond_true, cond_false, decide_true, decide_false, true_imp_iff, implies_true, Int.cast_ofNat_Int, forall_eq']
  rintro ⟨x, y⟩ hxy
  unfold lb40_0
  simp only [↓EVP0, EVQ0, EVQ1, EVQ2, EVQ3, EVQ4, EVA, EVK, EVFR, ↓reduceIte, Nat.reduceEqDiff, Nat.reduceAdd, Nat.reduceSub, Nat.reduceMul, Nat.reduceLT, Nat.reduceLeDiff, reduceCtorEq, Int.reduceToNat, Int.reduceLT, Int.reduceLE, Int.reduceAdd, Int.reduceSub, Int.reduceMul, Int.reduceNeg, Int.reduceEq, Nat.reduceMod, forall_eq_or_imp, forall_eq, forall_const, cond_true, cond_false, decide_true, decide_false, true_imp_iff, implies_true, Int.cast_ofNat_Int, forall_eq']
  refine ⟨fun h => ⟨by simp at h; omega, (y, x % y), ?_, ⟨rfl, (Int.ofNat_tmod x y).symm⟩, ?_⟩, fun h => ?_⟩
  · simp only at hxy ⊢
    rw [← hxy, Nat.gcd_comm x y, Nat.gcd_rec y x, Nat.gcd_comm]
  · simp at h
    exact Nat.mod_lt _ (by omega)
  · have : y = 0 := by simp at h; omega
    subst this
    simp only [Nat.gcd_zero_right] at hxy
    rw [hxy]
theorem ev_rabs (n : Int) (h : -9223372036854775807 ≤ n ∧ n ≤ 9223372036854775807) : Ev Try.prog 41 [.sc (.int .i64 n)] (.sc (.int .i64 ((mag n : Nat) : Int))) := by
  refine ev_fn Try.func41 comp41 (show 1 ≤ Try.f41.ntmps by decide) ?_; unfold cf41 rf41; simp only [↓EVP0, EVQ0, EVQ1, EVQ2, EVQ3, EVQ4, EVA, EVK, EVFR, ↓reduceIte, Nat.reduceEqDiff, Nat.reduceAdd, Nat.reduceSub, Nat.reduceMul, Nat.reduceLT, Nat.reduceLeDiff, reduceCtorEq, Int.reduceToNat, Int.reduceLT, Int.reduceLE, Int.reduceAdd, Int.reduceSub, Int.reduceMul, Int.reduceNeg, Int.reduceEq, Nat.reduceMod, forall_eq_or_imp, forall_eq, forall_const, cond_true, cond_false, decide_true, decide_false, true_imp_iff, implies_true, Int.cast_ofNat_Int, forall_eq']
  unfold mag
  rw [wrap64_in (show In64 (0 - n) by unfold In64; omega)]
  refine ⟨fun g => ?_, fun g => ?_⟩
  · have g' : n < 0 := by simpa using g
    omega
  · have g' : ¬ n < 0 := by simpa using g
    omega
theorem ev_rvalid (r : Rt) : Ev Try.prog 23 [ratV r] (.sc (.bool (vldR r))) := by
  have h1 := ev_rabs r.n
  have h3 := ev_rgcd
  unfold ratV
  refine ev_fn Try.func23 comp23 (show 1 ≤ Try.f23.ntmps by decide) ?_; unfold cf23 rf23; simp only [↓EVP0, EVQ0, EVQ1, EVQ2, EVQ3, EVQ4, EVA, EVK, EVFR, ↓reduceIte, Nat.reduceEqDiff, Nat.reduceAdd, Nat.reduceSub, Nat.reduceMul, Nat.reduceLT, Nat.reduceLeDiff, reduceCtorEq, Int.reduceToNat, Int.reduceLT, Int.reduceLE, Int.reduceAdd, Int.reduceSub, Int.reduceMul, Int.reduceNeg, Int.reduceEq, Nat.reduceMod, forall_eq_or_imp, forall_eq, forall_const, cond_true, cond_false, decide_true, decide_false, true_imp_iff, implies_true, Int.cast_ofNat_Int, forall_eq']
  refine ⟨fun g => ?_, fun g => ?_⟩
  · have : vldR r = true := by
      unfold vldR
      cases h : decide (r.n = 0) <;> rw [h] at g <;> simp at g
      simp [g]
    rw [this]
  (first | refine lopsQ_gcall ?_ | refine lopsQ_gecl ?_); (simp only [↓EVP0, EVQ0, EVQ1, EVQ2, EVQ3, EVQ4, EVA, EVK, EVFR, ↓reduceIte, Nat.reduceEqDiff, Nat.reduceAdd, Nat.reduceSub, Nat.reduceMul, Nat.reduceLT, Nat.reduceLeDiff, reduceCtorEq, Int.reduceToNat, Int.reduceLT, Int.reduceLE, Int.reduceAdd, Int.reduceSub, Int.reduceMul, Int.reduceNeg, Int.reduceEq, Nat.reduceMod, forall_eq_or_imp, forall_eq, forall_const, cond_true, cond_false, decide_true, decide_false, true_imp_iff, implies_true, Int.cast_ofNat_Int, forall_eq'])
  first | refine gCallK_ro (.sc (.int .i64 ((mag r.n : Nat) : Int))) (fun hg => h1 ?_) (fun _ => ?_) ?_ | refine geCallK_ro (.sc (.int .i64 ((mag r.n : Nat) : Int))) (fun hg => h1 ?_) (fun _ => ?_) ?_
  · simp only [condF, Bool.and_eq_true, decide_eq_true_eq] at hg; omega
  · simp only [↓EVP0, EVQ0, EVQ1, EVQ2, EVQ3, EVQ4, EVA, EVK, EVFR, ↓reduceIte, Nat.reduceEqDiff, Nat.reduceAdd, Nat.reduceSub, Nat.reduceMul, Nat.reduceLT, Nat.reduceLeDiff, reduceCtorEq, Int.reduceToNat, Int.reduceLT, Int.reduceLE, Int.reduceAdd, Int.reduceSub, Int.reduceMul, Int.reduceNeg, Int.reduceEq, Nat.reduceMod, forall_eq_or_imp, forall_eq, forall_const, cond_true, cond_false, decide_true, decide_false, true_imp_iff, implies_true, Int.cast_ofNat_Int, forall_eq']
  simp only [↓EVP0, EVQ0, EVQ1, EVQ2, EVQ3, EVQ4, EVA, EVK, EVFR, ↓reduceIte, Nat.reduceEqDiff, Nat.reduceAdd, Nat.reduceSub, Nat.reduceMul, Nat.reduceLT, Nat.reduceLeDiff, reduceCtorEq, Int.reduceToNat, Int.reduceLT, Int.reduceLE, Int.reduceAdd, Int.reduceSub, Int.reduceMul, Int.reduceNeg, Int.reduceEq, Nat.reduceMod, forall_eq_or_imp, forall_eq, forall_const, cond_true, cond_false, decide_true, decide_false, true_imp_iff, implies_true, Int.cast_ofNat_Int, forall_eq']
  (first | refine lopsQ_gcall ?_ | refine lopsQ_gecl ?_); (simp only [↓EVP0, EVQ0, EVQ1, EVQ2, EVQ3, EVQ4, EVA, EVK, EVFR, ↓reduceIte, Nat.reduceEqDiff, Nat.reduceAdd, Nat.reduceSub, Nat.reduceMul, Nat.reduceLT, Nat.reduceLeDiff, reduceCtorEq, Int.reduceToNat, Int.reduceLT, Int.reduceLE, Int.reduceAdd, Int.reduceSub, Int.reduceMul, Int.reduceNeg, Int.reduceEq, Nat.reduceMod, forall_eq_or_imp, forall_eq, forall_const, cond_true, cond_false, decide_true, decide_false, true_imp_iff, implies_true, Int.cast_ofNat_Int, forall_eq'])
  have h4 : ∀ hg : 1 ≤ r.d, Ev Try.prog 40 [.sc (.int .i64 ((mag r.n : Nat) : Int)), .sc (.int .i64 r.d)] (.sc (.int .i64 ((Nat.gcd (mag r.n) (mag r.d) : Nat) : Int))) := by
    intro hg
    have := h3 (mag r.n) (mag r.d)
    rw [show ((mag r.d : Nat) : Int) = r.d by unfold mag; omega] at this
    exact this
  first | refine gCallK_ro _ (fun hg => h4 ?_) (fun _ => ?_) ?_ | refine geCallK_ro _ (fun hg => h4 ?_) (fun _ => ?_) ?_
  · simp only [condF, Bool.and_eq_true, decide_eq_true_eq] at hg; omega
  · simp only [↓EVP0, EVQ0, EVQ1, EVQ2, EVQ3, EVQ4, EVA, EVK, EVFR, ↓reduceIte, Nat.reduceEqDiff, Nat.reduceAdd, Nat.reduceSub, Nat.reduceMul, Nat.reduceLT, Nat.reduceLeDiff, reduceCtorEq, Int.reduceToNat, Int.reduceLT, Int.reduceLE, Int.reduceAdd, Int.reduceSub, Int.reduceMul, Int.reduceNeg, Int.reduceEq, Nat.reduceMod, forall_eq_or_imp, forall_eq, forall_const, cond_true, cond_false, decide_true, decide_false, true_imp_iff, implies_true, Int.cast_ofNat_Int, forall_eq']
  simp only [↓EVP0, EVQ0, EVQ1, EVQ2, EVQ3, EVQ4, EVA, EVK, EVFR, ↓reduceIte, Nat.reduceEqDiff, Nat.reduceAdd, Nat.reduceSub, Nat.reduceMul, Nat.reduceLT, Nat.reduceLeDiff, reduceCtorEq, Int.reduceToNat, Int.reduceLT, Int.reduceLE, Int.reduceAdd, Int.reduceSub, Int.reduceMul, Int.reduceNeg, Int.reduceEq, Nat.reduceMod, forall_eq_or_imp, forall_eq, forall_const, cond_true, cond_false, decide_true, decide_false, true_imp_iff, implies_true, Int.cast_ofNat_Int, forall_eq']
  simp only [condF] at g ⊢
  unfold vldR
  rw [g, Bool.false_or]
  have e : ∀ n : Nat, decide ((n : Int) = 1) = decide (n = 1) := fun n => by
    by_cases h : n = 1
    · subst h; rfl
    · have : ¬ (n : Int) = 1 := by omega
      simp [h, this]
  rw [e]
  cases decide (1 ≤ r.d) <;> cases decide (r.d ≤ 1152921504606846976) <;> cases decide (-1152921504606846976 ≤ r.n) <;> cases decide (r.n ≤ 1152921504606846976) <;> rfl
def fullR (r : Rt) : Rt := if r.d = 0 then ⟨0, 1⟩ else r
theorem ev_full (r : Rt) : Ev Try.prog 39 [ratV r] (ratV (fullR r)) := by
  unfold ratV
  refine ev_fn Try.func39 comp39 (show 1 ≤ Try.f39.ntmps by decide) ?_; unfold cf39 rf39; simp only [↓EVP0, EVQ0, EVQ1, EVQ2, EVQ3, EVQ4, EVA, EVK, EVFR, ↓reduceIte, Nat.reduceEqDiff, Nat.reduceAdd, Nat.reduceSub, Nat.reduceMul, Nat.reduceLT, Nat.reduceLeDiff, reduceCtorEq, Int.reduceToNat, Int.reduceLT, Int.reduceLE, Int.reduceAdd, Int.reduceSub, Int.reduceMul, Int.reduceNeg, Int.reduceEq, Nat.reduceMod, forall_eq_or_imp, forall_eq, forall_const, cond_true, cond_false, decide_true, decide_false, true_imp_iff, implies_true, Int.cast_ofNat_Int, forall_eq']
  unfold fullR
  refine ⟨fun g => ?_, fun g => ?_⟩
  · rw [if_pos (by simpa using g)]; exact ⟨rfl, rfl⟩
  · rw [if_neg (by simpa using g)]; exact ⟨rfl, rfl⟩
theorem full_nrm {r : Rt} (h : vldR r = true) : fullR r = nrmR r := by
  unfold fullR nrmR
  split
  · unfold vldR at h
    simp only [Bool.or_eq_true, Bool.and_eq_true, decide_eq_true_eq] at h
    rcases h with h | h
    · rw [h.1]
    · omega
  · rfl
theorem tdiv_sg (n : Int) (g : Nat) : n.tdiv (g : Int) = sg (decide (n < 0)) (n.natAbs / g) := by
  have h := sg_of n
  generalize n.natAbs = m at *
  generalize decide (n < 0) = s at *
  rw [← h]
  cases s
  · simp only [sg, cond_false]; rw [← Int.ofNat_tdiv]
  · simp only [sg, cond_true]; rw [Int.neg_tdiv, ← Int.ofNat_tdiv]
theorem low_tdiv (n : Int) (y g : Nat) (hy : 0 < y) (hg : g = Nat.gcd n.natAbs y) : low n y = if vldR ⟨n.tdiv g, (y : Int).tdiv g⟩ = true then (⟨n.tdiv g, (y : Int).tdiv g⟩, 0) else (⟨0, 0⟩, 10) := by
  obtain ⟨h1, h2, _⟩ := low_terms n y hy
  subst hg
  rw [tdiv_sg, ← Int.ofNat_tdiv]
  unfold low res
  generalize n.natAbs / Nat.gcd n.natAbs y = m at *
  generalize y / Nat.gcd n.natAbs y = k at *
  generalize decide (n < 0) = s
  have hs := sg_natAbs s m
  have hv : vldR ⟨sg s m, (k : Int)⟩ = true ↔ m ≤ 1152921504606846976 ∧ k ≤ 1152921504606846976 := by
    unfold vldR mag
    simp only [Bool.or_eq_true, Bool.and_eq_true, decide_eq_true_eq]
    rw [hs, Int.natAbs_natCast]
    constructor
    · rintro (h | h) <;> omega
    · intro h
      exact .inr ⟨by omega, by omega, by omega, by omega, h1⟩
  split
  · rename_i h0
    subst h0
    have hk : k = 1 := by simpa using h1
    subst hk
    rw [if_pos (hv.2 (by omega))]
    cases s <;> rfl
  · by_cases hb : m ≤ 1152921504606846976 ∧ k ≤ 1152921504606846976
    · rw [if_pos hb, if_pos (hv.2 hb)]
    · rw [if_neg hb, if_neg (fun h => hb (hv.1 h))]
def In63 (x : Int) : Prop := -9223372036854775807 ≤ x ∧ x ≤ 9223372036854775807
theorem tdiv_in {n : Int} (g : Nat) (h : In63 n) : In64 (n.tdiv (g : Int)) := by
  rw [tdiv_sg]
  have t := Nat.div_le_self n.natAbs g
  generalize n.natAbs / g = q at *
  unfold In63 at h
  unfold In64 sg
  cases decide (n < 0) <;> simp only [cond_true, cond_false] <;> omega
theorem ev_rof (n d : Int) (hn : In63 n) (hd : In63 d) : Ev Try.prog 25 [.sc (.int .i64 n), .sc (.int .i64 d)] (rrV (ofR n d)) := by
  unfold In63 at *
  unfold rrV ratV
  refine ev_fn Try.func25 comp25 (show 2 ≤ Try.f25.ntmps by decide) ?_; unfold cf25 rf25; simp only [↓EVP0, EVQ0, EVQ1, EVQ2, EVQ3, EVQ4, EVA, EVK, EVFR, ↓reduceIte, Nat.reduceEqDiff, Nat.reduceAdd, Nat.reduceSub, Nat.reduceMul, Nat.reduceLT, Nat.reduceLeDiff, reduceCtorEq, Int.reduceToNat, Int.reduceLT, Int.reduceLE, Int.reduceAdd, Int.reduceSub, Int.reduceMul, Int.reduceNeg, Int.reduceEq, Nat.reduceMod, forall_eq_or_imp, forall_eq, forall_const, cond_true, cond_false, decide_true, decide_false, true_imp_iff, implies_true, Int.cast_ofNat_Int, forall_eq']
  rw [wrap64_in (show In64 (0 - n) by unfold In64; omega), wrap64_in (show In64 (0 - d) by unfold In64; omega)]
  unfold ofR
  refine ⟨fun g => ?_, fun g => ?_⟩
  · rw [if_pos (by simpa using g)]; exact ⟨⟨rfl, rfl⟩, rfl⟩
  have hd0 : d ≠ 0 := by simpa using g
  rw [if_neg hd0]
  refine ⟨fun g => ?_, fun g => ?_⟩
  all_goals simp only [decide_eq_true_eq, decide_eq_false_iff_not] at g
  rw [if_pos g, show -n = 0 - n by omega, show mag d = mag (0 - d) by unfold mag; omega]
  have b1 : -9223372036854775807 ≤ 0 - n ∧ 0 - n ≤ 9223372036854775807 := by omega
  have b2 : 0 < 0 - d ∧ 0 - d ≤ 9223372036854775807 := by omega
  clear hn hd hd0 g
  generalize 0 - n = n at *
  generalize 0 - d = d at *
  rotate_left
  rw [if_neg g]
  have b1 := hn
  have b2 : 0 < d ∧ d ≤ 9223372036854775807 := by omega
  clear hn hd hd0 g
  all_goals
    have h1 := ev_rabs n b1
    have h2 := ev_rgcd (mag n) (mag d)
    have e1 : ((mag d : Nat) : Int) = d := by unfold mag; omega
    rw [e1] at h2
    have p0 : 0 < mag d := by unfold mag; omega
    have h3 := low_tdiv n (mag d) _ p0 rfl
    rw [e1] at h3
    have hg0 : 0 < Nat.gcd (mag n) (mag d) := Nat.gcd_pos_of_pos_right _ p0
    rw [show n.natAbs = mag n from rfl] at h3
    have i1 : In64 (n.tdiv (Nat.gcd (mag n) (mag d) : Nat)) := tdiv_in _ b1
    have i2 : In64 (d.tdiv (Nat.gcd (mag n) (mag d) : Nat)) := tdiv_in _ ⟨by omega, b2.2⟩
    have hne : ((Nat.gcd (mag n) (mag d) : Nat) : Int) ≠ 0 := by omega
    have h4 := ev_rvalid ⟨n.tdiv (Nat.gcd (mag n) (mag d) : Nat), d.tdiv (Nat.gcd (mag n) (mag d) : Nat)⟩
    unfold ratV at h4
    refine callK_ro (h1) ?_ ?_
    · simp only [↓EVP0, EVQ0, EVQ1, EVQ2, EVQ3, EVQ4, EVA, EVK, EVFR, ↓reduceIte, Nat.reduceEqDiff, Nat.reduceAdd, Nat.reduceSub, Nat.reduceMul, Nat.reduceLT, Nat.reduceLeDiff, reduceCtorEq, Int.reduceToNat, Int.reduceLT, Int.reduceLE, Int.reduceAdd, Int.reduceSub, Int.reduceMul, Int.reduceNeg, Int.reduceEq, Nat.reduceMod, forall_eq_or_imp, forall_eq, forall_const, cond_true, cond_false, decide_true, decide_false, true_imp_iff, implies_true, Int.cast_ofNat_Int, forall_eq']
    simp only [↓EVP0, EVQ0, EVQ1, EVQ2, EVQ3, EVQ4, EVA, EVK, EVFR, ↓reduceIte, Nat.reduceEqDiff, Nat.reduceAdd, Nat.reduceSub, Nat.reduceMul, Nat.reduceLT, Nat.reduceLeDiff, reduceCtorEq, Int.reduceToNat, Int.reduceLT, Int.reduceLE, Int.reduceAdd, Int.reduceSub, Int.reduceMul, Int.reduceNeg, Int.reduceEq, Nat.reduceMod, forall_eq_or_imp, forall_eq, forall_const, cond_true, cond_false, decide_true, decide_false, true_imp_iff, implies_true, Int.cast_ofNat_Int, forall_eq']
    refine callK_ro (h2) ?_ ?_
    · simp only [↓EVP0, EVQ0, EVQ1, EVQ2, EVQ3, EVQ4, EVA, EVK, EVFR, ↓reduceIte, Nat.reduceEqDiff, Nat.reduceAdd, Nat.reduceSub, Nat.reduceMul, Nat.reduceLT, Nat.reduceLeDiff, reduceCtorEq, Int.reduceToNat, Int.reduceLT, Int.reduceLE, Int.reduceAdd, Int.reduceSub, Int.reduceMul, Int.reduceNeg, Int.reduceEq, Nat.reduceMod, forall_eq_or_imp, forall_eq, forall_const, cond_true, cond_false, decide_true, decide_false, true_imp_iff, implies_true, Int.cast_ofNat_Int, forall_eq']
    simp only [↓EVP0, EVQ0, EVQ1, EVQ2, EVQ3, EVQ4, EVA, EVK, EVFR, ↓reduceIte, Nat.reduceEqDiff, Nat.reduceAdd, Nat.reduceSub, Nat.reduceMul, Nat.reduceLT, Nat.reduceLeDiff, reduceCtorEq, Int.reduceToNat, Int.reduceLT, Int.reduceLE, Int.reduceAdd, Int.reduceSub, Int.reduceMul, Int.reduceNeg, Int.reduceEq, Nat.reduceMod, forall_eq_or_imp, forall_eq, forall_const, cond_true, cond_false, decide_true, decide_false, true_imp_iff, implies_true, Int.cast_ofNat_Int, forall_eq']
    rw [h3]
    refine ⟨⟨hne, i1⟩, ⟨hne, i2⟩, ?_⟩
    refine callK_ro (h4) ?_ ?_
    · simp only [↓EVP0, EVQ0, EVQ1, EVQ2, EVQ3, EVQ4, EVA, EVK, EVFR, ↓reduceIte, Nat.reduceEqDiff, Nat.reduceAdd, Nat.reduceSub, Nat.reduceMul, Nat.reduceLT, Nat.reduceLeDiff, reduceCtorEq, Int.reduceToNat, Int.reduceLT, Int.reduceLE, Int.reduceAdd, Int.reduceSub, Int.reduceMul, Int.reduceNeg, Int.reduceEq, Nat.reduceMod, forall_eq_or_imp, forall_eq, forall_const, cond_true, cond_false, decide_true, decide_false, true_imp_iff, implies_true, Int.cast_ofNat_Int, forall_eq']
    simp only [↓EVP0, EVQ0, EVQ1, EVQ2, EVQ3, EVQ4, EVA, EVK, EVFR, ↓reduceIte, Nat.reduceEqDiff, Nat.reduceAdd, Nat.reduceSub, Nat.reduceMul, Nat.reduceLT, Nat.reduceLeDiff, reduceCtorEq, Int.reduceToNat, Int.reduceLT, Int.reduceLE, Int.reduceAdd, Int.reduceSub, Int.reduceMul, Int.reduceNeg, Int.reduceEq, Nat.reduceMod, forall_eq_or_imp, forall_eq, forall_const, cond_true, cond_false, decide_true, decide_false, true_imp_iff, implies_true, Int.cast_ofNat_Int, forall_eq']
    refine ⟨fun g => ?_, fun g => ?_⟩
    · rw [if_neg (by simpa using g)]; exact ⟨⟨rfl, rfl⟩, rfl⟩
    · rw [if_pos (by simpa using g)]; exact ⟨⟨rfl, rfl⟩, rfl⟩
/-- Valid and small. -/
def Sm (r : Rt) : Prop := vldR r = true ∧ In29 r.n ∧ In29 r.d
theorem full_sm {r : Rt} (h : Sm r) : In29 (fullR r).n ∧ In29 (fullR r).d ∧ 1 ≤ (fullR r).d := by
  obtain ⟨h1, h2, h3⟩ := h
  unfold fullR
  split
  · unfold In29; simp
  · refine ⟨h2, h3, ?_⟩
    unfold vldR at h1
    simp only [Bool.or_eq_true, Bool.and_eq_true, decide_eq_true_eq] at h1
    omega
theorem ev_radd (a b : Rt) (ha : Sm a) (hb : Sm b) : Ev Try.prog 18 [ratV a, ratV b] (rrV (ofR ((fullR a).n * (fullR b).d + (fullR b).n * (fullR a).d) ((fullR a).d * (fullR b).d))) := by
  have f1 := ev_full a
  have f2 := ev_full b
  obtain ⟨a1, a2, _⟩ := full_sm ha
  obtain ⟨b1, b2, _⟩ := full_sm hb
  have p1 := mul29 a1 b2
  have p2 := mul29 b1 a2
  have p3 := mul29 a2 b2
  generalize fullR a = A at *
  generalize fullR b = B at *
  have h1 := ev_rof (A.n * B.d + B.n * A.d) (A.d * B.d) (by unfold In63; omega) (by unfold In63; omega)
  unfold rrV ratV at *
  refine ev_fn Try.func18 comp18 (show 2 ≤ Try.f18.ntmps by decide) ?_; unfold cf18 rf18; simp only [↓EVP0, EVQ0, EVQ1, EVQ2, EVQ3, EVQ4, EVA, EVK, EVFR, ↓reduceIte, Nat.reduceEqDiff, Nat.reduceAdd, Nat.reduceSub, Nat.reduceMul, Nat.reduceLT, Nat.reduceLeDiff, reduceCtorEq, Int.reduceToNat, Int.reduceLT, Int.reduceLE, Int.reduceAdd, Int.reduceSub, Int.reduceMul, Int.reduceNeg, Int.reduceEq, Nat.reduceMod, forall_eq_or_imp, forall_eq, forall_const, cond_true, cond_false, decide_true, decide_false, true_imp_iff, implies_true, Int.cast_ofNat_Int, forall_eq']
  first | refine qCallK_ro (f1) ?_ ?_ | refine eCallK_ro (f1) ?_ ?_
  · simp only [↓EVP0, EVQ0, EVQ1, EVQ2, EVQ3, EVQ4, EVA, EVK, EVFR, ↓reduceIte, Nat.reduceEqDiff, Nat.reduceAdd, Nat.reduceSub, Nat.reduceMul, Nat.reduceLT, Nat.reduceLeDiff, reduceCtorEq, Int.reduceToNat, Int.reduceLT, Int.reduceLE, Int.reduceAdd, Int.reduceSub, Int.reduceMul, Int.reduceNeg, Int.reduceEq, Nat.reduceMod, forall_eq_or_imp, forall_eq, forall_const, cond_true, cond_false, decide_true, decide_false, true_imp_iff, implies_true, Int.cast_ofNat_Int, forall_eq']
  simp only [↓EVP0, EVQ0, EVQ1, EVQ2, EVQ3, EVQ4, EVA, EVK, EVFR, ↓reduceIte, Nat.reduceEqDiff, Nat.reduceAdd, Nat.reduceSub, Nat.reduceMul, Nat.reduceLT, Nat.reduceLeDiff, reduceCtorEq, Int.reduceToNat, Int.reduceLT, Int.reduceLE, Int.reduceAdd, Int.reduceSub, Int.reduceMul, Int.reduceNeg, Int.reduceEq, Nat.reduceMod, forall_eq_or_imp, forall_eq, forall_const, cond_true, cond_false, decide_true, decide_false, true_imp_iff, implies_true, Int.cast_ofNat_Int, forall_eq']
  first | refine qCallK_ro (f2) ?_ ?_ | refine eCallK_ro (f2) ?_ ?_
  · simp only [↓EVP0, EVQ0, EVQ1, EVQ2, EVQ3, EVQ4, EVA, EVK, EVFR, ↓reduceIte, Nat.reduceEqDiff, Nat.reduceAdd, Nat.reduceSub, Nat.reduceMul, Nat.reduceLT, Nat.reduceLeDiff, reduceCtorEq, Int.reduceToNat, Int.reduceLT, Int.reduceLE, Int.reduceAdd, Int.reduceSub, Int.reduceMul, Int.reduceNeg, Int.reduceEq, Nat.reduceMod, forall_eq_or_imp, forall_eq, forall_const, cond_true, cond_false, decide_true, decide_false, true_imp_iff, implies_true, Int.cast_ofNat_Int, forall_eq']
  simp only [↓EVP0, EVQ0, EVQ1, EVQ2, EVQ3, EVQ4, EVA, EVK, EVFR, ↓reduceIte, Nat.reduceEqDiff, Nat.reduceAdd, Nat.reduceSub, Nat.reduceMul, Nat.reduceLT, Nat.reduceLeDiff, reduceCtorEq, Int.reduceToNat, Int.reduceLT, Int.reduceLE, Int.reduceAdd, Int.reduceSub, Int.reduceMul, Int.reduceNeg, Int.reduceEq, Nat.reduceMod, forall_eq_or_imp, forall_eq, forall_const, cond_true, cond_false, decide_true, decide_false, true_imp_iff, implies_true, Int.cast_ofNat_Int, forall_eq']
  unfold In64
  refine ⟨by omega, by omega, by omega, by omega, ?_⟩
  refine callK_ro (h1) ?_ ?_
  · simp only [↓EVP0, EVQ0, EVQ1, EVQ2, EVQ3, EVQ4, EVA, EVK, EVFR, ↓reduceIte, Nat.reduceEqDiff, Nat.reduceAdd, Nat.reduceSub, Nat.reduceMul, Nat.reduceLT, Nat.reduceLeDiff, reduceCtorEq, Int.reduceToNat, Int.reduceLT, Int.reduceLE, Int.reduceAdd, Int.reduceSub, Int.reduceMul, Int.reduceNeg, Int.reduceEq, Nat.reduceMod, forall_eq_or_imp, forall_eq, forall_const, cond_true, cond_false, decide_true, decide_false, true_imp_iff, implies_true, Int.cast_ofNat_Int, forall_eq']
  simp only [↓EVP0, EVQ0, EVQ1, EVQ2, EVQ3, EVQ4, EVA, EVK, EVFR, ↓reduceIte, Nat.reduceEqDiff, Nat.reduceAdd, Nat.reduceSub, Nat.reduceMul, Nat.reduceLT, Nat.reduceLeDiff, reduceCtorEq, Int.reduceToNat, Int.reduceLT, Int.reduceLE, Int.reduceAdd, Int.reduceSub, Int.reduceMul, Int.reduceNeg, Int.reduceEq, Nat.reduceMod, forall_eq_or_imp, forall_eq, forall_const, cond_true, cond_false, decide_true, decide_false, true_imp_iff, implies_true, Int.cast_ofNat_Int, forall_eq']
theorem ev_rneg (a : Rt) (h : In63 a.n) : Ev Try.prog 19 [ratV a] (ratV (negR a)) := by
  unfold ratV
  refine ev_fn Try.func19 comp19 (show 1 ≤ Try.f19.ntmps by decide) ?_; unfold cf19 rf19; simp only [↓EVP0, EVQ0, EVQ1, EVQ2, EVQ3, EVQ4, EVA, EVK, EVFR, ↓reduceIte, Nat.reduceEqDiff, Nat.reduceAdd, Nat.reduceSub, Nat.reduceMul, Nat.reduceLT, Nat.reduceLeDiff, reduceCtorEq, Int.reduceToNat, Int.reduceLT, Int.reduceLE, Int.reduceAdd, Int.reduceSub, Int.reduceMul, Int.reduceNeg, Int.reduceEq, Nat.reduceMod, forall_eq_or_imp, forall_eq, forall_const, cond_true, cond_false, decide_true, decide_false, true_imp_iff, implies_true, Int.cast_ofNat_Int, forall_eq']
  unfold In63 at h
  rw [wrap64_in (show In64 (0 - a.n) by unfold In64; omega)]
  exact ⟨rfl, rfl⟩
theorem ev_rmul (a b : Rt) (ha : Sm a) (hb : Sm b) : Ev Try.prog 20 [ratV a, ratV b] (rrV (ofR ((fullR a).n * (fullR b).n) ((fullR a).d * (fullR b).d))) := by
  have f1 := ev_full a
  have f2 := ev_full b
  obtain ⟨a1, a2, _⟩ := full_sm ha
  obtain ⟨b1, b2, _⟩ := full_sm hb
  have p1 := mul29 a1 b1
  have p3 := mul29 a2 b2
  generalize fullR a = A at *
  generalize fullR b = B at *
  have h1 := ev_rof (A.n * B.n) (A.d * B.d) (by unfold In63; omega) (by unfold In63; omega)
  unfold rrV ratV at *
  refine ev_fn Try.func20 comp20 (show 2 ≤ Try.f20.ntmps by decide) ?_; unfold cf20 rf20; simp only [↓EVP0, EVQ0, EVQ1, EVQ2, EVQ3, EVQ4, EVA, EVK, EVFR, ↓reduceIte, Nat.reduceEqDiff, Nat.reduceAdd, Nat.reduceSub, Nat.reduceMul, Nat.reduceLT, Nat.reduceLeDiff, reduceCtorEq, Int.reduceToNat, Int.reduceLT, Int.reduceLE, Int.reduceAdd, Int.reduceSub, Int.reduceMul, Int.reduceNeg, Int.reduceEq, Nat.reduceMod, forall_eq_or_imp, forall_eq, forall_const, cond_true, cond_false, decide_true, decide_false, true_imp_iff, implies_true, Int.cast_ofNat_Int, forall_eq']
  first | refine qCallK_ro (f1) ?_ ?_ | refine eCallK_ro (f1) ?_ ?_
  · simp only [↓EVP0, EVQ0, EVQ1, EVQ2, EVQ3, EVQ4, EVA, EVK, EVFR, ↓reduceIte, Nat.reduceEqDiff, Nat.reduceAdd, Nat.reduceSub, Nat.reduceMul, Nat.reduceLT, Nat.reduceLeDiff, reduceCtorEq, Int.reduceToNat, Int.reduceLT, Int.reduceLE, Int.reduceAdd, Int.reduceSub, Int.reduceMul, Int.reduceNeg, Int.reduceEq, Nat.reduceMod, forall_eq_or_imp, forall_eq, forall_const, cond_true, cond_false, decide_true, decide_false, true_imp_iff, implies_true, Int.cast_ofNat_Int, forall_eq']
  simp only [↓EVP0, EVQ0, EVQ1, EVQ2, EVQ3, EVQ4, EVA, EVK, EVFR, ↓reduceIte, Nat.reduceEqDiff, Nat.reduceAdd, Nat.reduceSub, Nat.reduceMul, Nat.reduceLT, Nat.reduceLeDiff, reduceCtorEq, Int.reduceToNat, Int.reduceLT, Int.reduceLE, Int.reduceAdd, Int.reduceSub, Int.reduceMul, Int.reduceNeg, Int.reduceEq, Nat.reduceMod, forall_eq_or_imp, forall_eq, forall_const, cond_true, cond_false, decide_true, decide_false, true_imp_iff, implies_true, Int.cast_ofNat_Int, forall_eq']
  first | refine qCallK_ro (f2) ?_ ?_ | refine eCallK_ro (f2) ?_ ?_
  · simp only [↓EVP0, EVQ0, EVQ1, EVQ2, EVQ3, EVQ4, EVA, EVK, EVFR, ↓reduceIte, Nat.reduceEqDiff, Nat.reduceAdd, Nat.reduceSub, Nat.reduceMul, Nat.reduceLT, Nat.reduceLeDiff, reduceCtorEq, Int.reduceToNat, Int.reduceLT, Int.reduceLE, Int.reduceAdd, Int.reduceSub, Int.reduceMul, Int.reduceNeg, Int.reduceEq, Nat.reduceMod, forall_eq_or_imp, forall_eq, forall_const, cond_true, cond_false, decide_true, decide_false, true_imp_iff, implies_true, Int.cast_ofNat_Int, forall_eq']
  simp only [↓EVP0, EVQ0, EVQ1, EVQ2, EVQ3, EVQ4, EVA, EVK, EVFR, ↓reduceIte, Nat.reduceEqDiff, Nat.reduceAdd, Nat.reduceSub, Nat.reduceMul, Nat.reduceLT, Nat.reduceLeDiff, reduceCtorEq, Int.reduceToNat, Int.reduceLT, Int.reduceLE, Int.reduceAdd, Int.reduceSub, Int.reduceMul, Int.reduceNeg, Int.reduceEq, Nat.reduceMod, forall_eq_or_imp, forall_eq, forall_const, cond_true, cond_false, decide_true, decide_false, true_imp_iff, implies_true, Int.cast_ofNat_Int, forall_eq']
  unfold In64
  refine ⟨by omega, by omega, ?_⟩
  refine callK_ro (h1) ?_ ?_
  · simp only [↓EVP0, EVQ0, EVQ1, EVQ2, EVQ3, EVQ4, EVA, EVK, EVFR, ↓reduceIte, Nat.reduceEqDiff, Nat.reduceAdd, Nat.reduceSub, Nat.reduceMul, Nat.reduceLT, Nat.reduceLeDiff, reduceCtorEq, Int.reduceToNat, Int.reduceLT, Int.reduceLE, Int.reduceAdd, Int.reduceSub, Int.reduceMul, Int.reduceNeg, Int.reduceEq, Nat.reduceMod, forall_eq_or_imp, forall_eq, forall_const, cond_true, cond_false, decide_true, decide_false, true_imp_iff, implies_true, Int.cast_ofNat_Int, forall_eq']
  simp only [↓EVP0, EVQ0, EVQ1, EVQ2, EVQ3, EVQ4, EVA, EVK, EVFR, ↓reduceIte, Nat.reduceEqDiff, Nat.reduceAdd, Nat.reduceSub, Nat.reduceMul, Nat.reduceLT, Nat.reduceLeDiff, reduceCtorEq, Int.reduceToNat, Int.reduceLT, Int.reduceLE, Int.reduceAdd, Int.reduceSub, Int.reduceMul, Int.reduceNeg, Int.reduceEq, Nat.reduceMod, forall_eq_or_imp, forall_eq, forall_const, cond_true, cond_false, decide_true, decide_false, true_imp_iff, implies_true, Int.cast_ofNat_Int, forall_eq']
theorem ev_rdiv (a b : Rt) (ha : Sm a) (hb : Sm b) : Ev Try.prog 21 [ratV a, ratV b] (rrV (ofR ((fullR a).n * (fullR b).d) ((fullR a).d * (fullR b).n))) := by
  have f1 := ev_full a
  have f2 := ev_full b
  obtain ⟨a1, a2, _⟩ := full_sm ha
  obtain ⟨b1, b2, _⟩ := full_sm hb
  have p1 := mul29 a1 b2
  have p3 := mul29 a2 b1
  generalize fullR a = A at *
  generalize fullR b = B at *
  have h1 := ev_rof (A.n * B.d) (A.d * B.n) (by unfold In63; omega) (by unfold In63; omega)
  unfold rrV ratV at *
  refine ev_fn Try.func21 comp21 (show 2 ≤ Try.f21.ntmps by decide) ?_; unfold cf21 rf21; simp only [↓EVP0, EVQ0, EVQ1, EVQ2, EVQ3, EVQ4, EVA, EVK, EVFR, ↓reduceIte, Nat.reduceEqDiff, Nat.reduceAdd, Nat.reduceSub, Nat.reduceMul, Nat.reduceLT, Nat.reduceLeDiff, reduceCtorEq, Int.reduceToNat, Int.reduceLT, Int.reduceLE, Int.reduceAdd, Int.reduceSub, Int.reduceMul, Int.reduceNeg, Int.reduceEq, Nat.reduceMod, forall_eq_or_imp, forall_eq, forall_const, cond_true, cond_false, decide_true, decide_false, true_imp_iff, implies_true, Int.cast_ofNat_Int, forall_eq']
  first | refine qCallK_ro (f1) ?_ ?_ | refine eCallK_ro (f1) ?_ ?_
  · simp only [↓EVP0, EVQ0, EVQ1, EVQ2, EVQ3, EVQ4, EVA, EVK, EVFR, ↓reduceIte, Nat.reduceEqDiff, Nat.reduceAdd, Nat.reduceSub, Nat.reduceMul, Nat.reduceLT, Nat.reduceLeDiff, reduceCtorEq, Int.reduceToNat, Int.reduceLT, Int.reduceLE, Int.reduceAdd, Int.reduceSub, Int.reduceMul, Int.reduceNeg, Int.reduceEq, Nat.reduceMod, forall_eq_or_imp, forall_eq, forall_const, cond_true, cond_false, decide_true, decide_false, true_imp_iff, implies_true, Int.cast_ofNat_Int, forall_eq']
  simp only [↓EVP0, EVQ0, EVQ1, EVQ2, EVQ3, EVQ4, EVA, EVK, EVFR, ↓reduceIte, Nat.reduceEqDiff, Nat.reduceAdd, Nat.reduceSub, Nat.reduceMul, Nat.reduceLT, Nat.reduceLeDiff, reduceCtorEq, Int.reduceToNat, Int.reduceLT, Int.reduceLE, Int.reduceAdd, Int.reduceSub, Int.reduceMul, Int.reduceNeg, Int.reduceEq, Nat.reduceMod, forall_eq_or_imp, forall_eq, forall_const, cond_true, cond_false, decide_true, decide_false, true_imp_iff, implies_true, Int.cast_ofNat_Int, forall_eq']
  first | refine qCallK_ro (f2) ?_ ?_ | refine eCallK_ro (f2) ?_ ?_
  · simp only [↓EVP0, EVQ0, EVQ1, EVQ2, EVQ3, EVQ4, EVA, EVK, EVFR, ↓reduceIte, Nat.reduceEqDiff, Nat.reduceAdd, Nat.reduceSub, Nat.reduceMul, Nat.reduceLT, Nat.reduceLeDiff, reduceCtorEq, Int.reduceToNat, Int.reduceLT, Int.reduceLE, Int.reduceAdd, Int.reduceSub, Int.reduceMul, Int.reduceNeg, Int.reduceEq, Nat.reduceMod, forall_eq_or_imp, forall_eq, forall_const, cond_true, cond_false, decide_true, decide_false, true_imp_iff, implies_true, Int.cast_ofNat_Int, forall_eq']
  simp only [↓EVP0, EVQ0, EVQ1, EVQ2, EVQ3, EVQ4, EVA, EVK, EVFR, ↓reduceIte, Nat.reduceEqDiff, Nat.reduceAdd, Nat.reduceSub, Nat.reduceMul, Nat.reduceLT, Nat.reduceLeDiff, reduceCtorEq, Int.reduceToNat, Int.reduceLT, Int.reduceLE, Int.reduceAdd, Int.reduceSub, Int.reduceMul, Int.reduceNeg, Int.reduceEq, Nat.reduceMod, forall_eq_or_imp, forall_eq, forall_const, cond_true, cond_false, decide_true, decide_false, true_imp_iff, implies_true, Int.cast_ofNat_Int, forall_eq']
  unfold In64
  refine ⟨by omega, by omega, ?_⟩
  refine callK_ro (h1) ?_ ?_
  · simp only [↓EVP0, EVQ0, EVQ1, EVQ2, EVQ3, EVQ4, EVA, EVK, EVFR, ↓reduceIte, Nat.reduceEqDiff, Nat.reduceAdd, Nat.reduceSub, Nat.reduceMul, Nat.reduceLT, Nat.reduceLeDiff, reduceCtorEq, Int.reduceToNat, Int.reduceLT, Int.reduceLE, Int.reduceAdd, Int.reduceSub, Int.reduceMul, Int.reduceNeg, Int.reduceEq, Nat.reduceMod, forall_eq_or_imp, forall_eq, forall_const, cond_true, cond_false, decide_true, decide_false, true_imp_iff, implies_true, Int.cast_ofNat_Int, forall_eq']
  simp only [↓EVP0, EVQ0, EVQ1, EVQ2, EVQ3, EVQ4, EVA, EVK, EVFR, ↓reduceIte, Nat.reduceEqDiff, Nat.reduceAdd, Nat.reduceSub, Nat.reduceMul, Nat.reduceLT, Nat.reduceLeDiff, reduceCtorEq, Int.reduceToNat, Int.reduceLT, Int.reduceLE, Int.reduceAdd, Int.reduceSub, Int.reduceMul, Int.reduceNeg, Int.reduceEq, Nat.reduceMod, forall_eq_or_imp, forall_eq, forall_const, cond_true, cond_false, decide_true, decide_false, true_imp_iff, implies_true, Int.cast_ofNat_Int, forall_eq']
theorem ev_rcmp (a b : Rt) (ha : Sm a) (hb : Sm b) : Ev Try.prog 28 [ratV a, ratV b] (.sc (.int .i64 (cmpE (fullR a) (fullR b)))) := by
  have f1 := ev_full a
  have f2 := ev_full b
  obtain ⟨a1, a2, _⟩ := full_sm ha
  obtain ⟨b1, b2, _⟩ := full_sm hb
  have p1 := mul29 a1 b2
  have p2 := mul29 b1 a2
  generalize fullR a = A at *
  generalize fullR b = B at *
  unfold ratV at *
  refine ev_fn Try.func28 comp28 (show 2 ≤ Try.f28.ntmps by decide) ?_; unfold cf28 rf28; simp only [↓EVP0, EVQ0, EVQ1, EVQ2, EVQ3, EVQ4, EVA, EVK, EVFR, ↓reduceIte, Nat.reduceEqDiff, Nat.reduceAdd, Nat.reduceSub, Nat.reduceMul, Nat.reduceLT, Nat.reduceLeDiff, reduceCtorEq, Int.reduceToNat, Int.reduceLT, Int.reduceLE, Int.reduceAdd, Int.reduceSub, Int.reduceMul, Int.reduceNeg, Int.reduceEq, Nat.reduceMod, forall_eq_or_imp, forall_eq, forall_const, cond_true, cond_false, decide_true, decide_false, true_imp_iff, implies_true, Int.cast_ofNat_Int, forall_eq']
  first | refine qCallK_ro (f1) ?_ ?_ | refine eCallK_ro (f1) ?_ ?_
  · simp only [↓EVP0, EVQ0, EVQ1, EVQ2, EVQ3, EVQ4, EVA, EVK, EVFR, ↓reduceIte, Nat.reduceEqDiff, Nat.reduceAdd, Nat.reduceSub, Nat.reduceMul, Nat.reduceLT, Nat.reduceLeDiff, reduceCtorEq, Int.reduceToNat, Int.reduceLT, Int.reduceLE, Int.reduceAdd, Int.reduceSub, Int.reduceMul, Int.reduceNeg, Int.reduceEq, Nat.reduceMod, forall_eq_or_imp, forall_eq, forall_const, cond_true, cond_false, decide_true, decide_false, true_imp_iff, implies_true, Int.cast_ofNat_Int, forall_eq']
  simp only [↓EVP0, EVQ0, EVQ1, EVQ2, EVQ3, EVQ4, EVA, EVK, EVFR, ↓reduceIte, Nat.reduceEqDiff, Nat.reduceAdd, Nat.reduceSub, Nat.reduceMul, Nat.reduceLT, Nat.reduceLeDiff, reduceCtorEq, Int.reduceToNat, Int.reduceLT, Int.reduceLE, Int.reduceAdd, Int.reduceSub, Int.reduceMul, Int.reduceNeg, Int.reduceEq, Nat.reduceMod, forall_eq_or_imp, forall_eq, forall_const, cond_true, cond_false, decide_true, decide_false, true_imp_iff, implies_true, Int.cast_ofNat_Int, forall_eq']
  first | refine qCallK_ro (f2) ?_ ?_ | refine eCallK_ro (f2) ?_ ?_
  · simp only [↓EVP0, EVQ0, EVQ1, EVQ2, EVQ3, EVQ4, EVA, EVK, EVFR, ↓reduceIte, Nat.reduceEqDiff, Nat.reduceAdd, Nat.reduceSub, Nat.reduceMul, Nat.reduceLT, Nat.reduceLeDiff, reduceCtorEq, Int.reduceToNat, Int.reduceLT, Int.reduceLE, Int.reduceAdd, Int.reduceSub, Int.reduceMul, Int.reduceNeg, Int.reduceEq, Nat.reduceMod, forall_eq_or_imp, forall_eq, forall_const, cond_true, cond_false, decide_true, decide_false, true_imp_iff, implies_true, Int.cast_ofNat_Int, forall_eq']
  simp only [↓EVP0, EVQ0, EVQ1, EVQ2, EVQ3, EVQ4, EVA, EVK, EVFR, ↓reduceIte, Nat.reduceEqDiff, Nat.reduceAdd, Nat.reduceSub, Nat.reduceMul, Nat.reduceLT, Nat.reduceLeDiff, reduceCtorEq, Int.reduceToNat, Int.reduceLT, Int.reduceLE, Int.reduceAdd, Int.reduceSub, Int.reduceMul, Int.reduceNeg, Int.reduceEq, Nat.reduceMod, forall_eq_or_imp, forall_eq, forall_const, cond_true, cond_false, decide_true, decide_false, true_imp_iff, implies_true, Int.cast_ofNat_Int, forall_eq']
  unfold In64 cmpE cmpI
  refine ⟨by omega, by omega, fun h => ?_, fun h => ⟨fun h2 => ?_, fun h2 => ?_⟩⟩
  all_goals simp only [decide_eq_true_eq, decide_eq_false_iff_not] at *
  · rw [if_pos h]
  · rw [if_neg h, if_neg (by omega)]
  · rw [if_neg h, if_pos (by omega)]
theorem ev_rfloor (a : Rt) (ha : Sm a) : Ev Try.prog 30 [ratV a] (.sc (.int .i64 ((fullR a).n / (fullR a).d))) := by
  have f1 := ev_full a
  obtain ⟨a1, a2, h0⟩ := full_sm ha
  generalize fullR a = A at *
  unfold ratV at *
  refine ev_fn Try.func30 comp30 (show 1 ≤ Try.f30.ntmps by decide) ?_; unfold cf30 rf30; simp only [↓EVP0, EVQ0, EVQ1, EVQ2, EVQ3, EVQ4, EVA, EVK, EVFR, ↓reduceIte, Nat.reduceEqDiff, Nat.reduceAdd, Nat.reduceSub, Nat.reduceMul, Nat.reduceLT, Nat.reduceLeDiff, reduceCtorEq, Int.reduceToNat, Int.reduceLT, Int.reduceLE, Int.reduceAdd, Int.reduceSub, Int.reduceMul, Int.reduceNeg, Int.reduceEq, Nat.reduceMod, forall_eq_or_imp, forall_eq, forall_const, cond_true, cond_false, decide_true, decide_false, true_imp_iff, implies_true, Int.cast_ofNat_Int, forall_eq']
  refine callK_ro (f1) ?_ ?_
  · simp only [↓EVP0, EVQ0, EVQ1, EVQ2, EVQ3, EVQ4, EVA, EVK, EVFR, ↓reduceIte, Nat.reduceEqDiff, Nat.reduceAdd, Nat.reduceSub, Nat.reduceMul, Nat.reduceLT, Nat.reduceLeDiff, reduceCtorEq, Int.reduceToNat, Int.reduceLT, Int.reduceLE, Int.reduceAdd, Int.reduceSub, Int.reduceMul, Int.reduceNeg, Int.reduceEq, Nat.reduceMod, forall_eq_or_imp, forall_eq, forall_const, cond_true, cond_false, decide_true, decide_false, true_imp_iff, implies_true, Int.cast_ofNat_Int, forall_eq']
  simp only [↓EVP0, EVQ0, EVQ1, EVQ2, EVQ3, EVQ4, EVA, EVK, EVFR, ↓reduceIte, Nat.reduceEqDiff, Nat.reduceAdd, Nat.reduceSub, Nat.reduceMul, Nat.reduceLT, Nat.reduceLeDiff, reduceCtorEq, Int.reduceToNat, Int.reduceLT, Int.reduceLE, Int.reduceAdd, Int.reduceSub, Int.reduceMul, Int.reduceNeg, Int.reduceEq, Nat.reduceMod, forall_eq_or_imp, forall_eq, forall_const, cond_true, cond_false, decide_true, decide_false, true_imp_iff, implies_true, Int.cast_ofNat_Int, forall_eq']
  have t := tdiv_floor (n := A.n) h0
  have hb : In64 (A.n.tdiv A.d) ∧ In64 (A.n.tdiv A.d - 1) := by
    have := tdiv_sg A.n A.d.natAbs
    rw [abs_d h0] at this
    rw [this]
    have t := Nat.div_le_self A.n.natAbs A.d.natAbs
    generalize A.n.natAbs / A.d.natAbs = q at *
    unfold In29 at a1
    unfold In64 sg
    cases decide (A.n < 0) <;> simp only [cond_true, cond_false] <;> omega
  refine ⟨⟨by omega, hb.1⟩, by omega, fun h => ⟨hb.2, ?_⟩, fun h => ?_⟩
  · rw [if_pos (by simpa using h)] at t; omega
  · rw [if_neg (by simpa using h)] at t; omega
end Go.Proofs.Ytfhifkcbdpgomaa
