/- Chapter 17's Of. Conditions: none. -/
import Derived.Test.YtggaonafmiklaaaGG
namespace Go.Proofs.Ytggaonafmiklaaa
set_option linter.unusedSimpArgs false
set_option linter.unusedVariables false
open Go.RowKit

structure PlVal (p : Pl) : Prop where
  n16 : p.ns.length ≤ 16
  c32 : p.cs.length ≤ 32
  cab : ∀ c, c ∈ p.cs → inN p.ns.length c.a ∧ inN p.ns.length c.b
  self : ∀ c, c ∈ p.cs → c.a ≠ c.b
theorem valid_of {p : Pl} (h : validE p = 0) : PlVal p := by
  unfold validE at h
  cases h1 : decide (16 < p.ns.length) || decide (32 < p.cs.length)
  · rw [h1, cond_false] at h
    cases h2 : p.ns.all nodeOk
    · rw [h2] at h; simp at h
    · rw [h2] at h
      cases h3 : p.cs.all (portsOk p)
      · rw [h3] at h; simp at h
      · rw [h3] at h
        cases h4 : repOk p
        · rw [h4] at h
          cases h5 : p.cs.all selfOk
          · rw [h5] at h; simp at h
          · simp at h1
            refine ⟨by omega, by omega, fun c hc => ?_, fun c hc => ?_⟩
            · have := List.all_eq_true.1 h3 c hc
              simp [portsOk, portOk] at this
              unfold inN; omega
            · have := List.all_eq_true.1 h5 c hc
              simpa [selfOk] using this
        · rw [h4] at h; simp at h
  · rw [h1] at h; simp at h
def usableB (p : Pl) (up : List Bool) : Bool := decide (validE p = 0) && decide (up.length = p.cs.length)
theorem ev_usable (p : Pl) (hp : PlOk p) (up : List Bool) : Ev Try.prog 36 [plV p, boolsV up] (.sc (.bool (usableB p up))) := by
  have h25 := ev_valid p hp
  unfold plV boolsV at *
  refine ev_fn Try.func36 comp36 (show 2 ≤ Try.f36.ntmps by decide) ?_; unfold cf36 rf36; simp only [↓EVP0, EVQ0, EVQ1, EVQ2, EVQ3, EVQ4, EVA, EVK, EVF, ↓reduceIte, Nat.reduceEqDiff, Nat.reduceAdd, Nat.reduceSub, Nat.reduceMul, Nat.reduceLT, Nat.reduceLeDiff, reduceCtorEq, Int.reduceToNat, Int.reduceLT, Int.reduceLE, Int.reduceAdd, Int.reduceSub, Int.reduceMul, Int.reduceNeg, Int.reduceEq, Nat.reduceMod, forall_eq_or_imp, forall_eq, forall_const, cond_true, cond_false, decide_true, decide_false, true_imp_iff, implies_true, Int.cast_ofNat_Int, forall_eq']
  refine callK_ro h25 ?_ ?_
  · simp only [↓EVP0, EVQ0, EVQ1, EVQ2, EVQ3, EVQ4, EVA, EVK, EVF, ↓reduceIte, Nat.reduceEqDiff, Nat.reduceAdd, Nat.reduceSub, Nat.reduceMul, Nat.reduceLT, Nat.reduceLeDiff, reduceCtorEq, Int.reduceToNat, Int.reduceLT, Int.reduceLE, Int.reduceAdd, Int.reduceSub, Int.reduceMul, Int.reduceNeg, Int.reduceEq, Nat.reduceMod, forall_eq_or_imp, forall_eq, forall_const, cond_true, cond_false, decide_true, decide_false, true_imp_iff, implies_true, Int.cast_ofNat_Int, forall_eq']
  simp only [↓EVP0, EVQ0, EVQ1, EVQ2, EVQ3, EVQ4, EVA, EVK, EVF, ↓reduceIte, Nat.reduceEqDiff, Nat.reduceAdd, Nat.reduceSub, Nat.reduceMul, Nat.reduceLT, Nat.reduceLeDiff, reduceCtorEq, Int.reduceToNat, Int.reduceLT, Int.reduceLE, Int.reduceAdd, Int.reduceSub, Int.reduceMul, Int.reduceNeg, Int.reduceEq, Nat.reduceMod, forall_eq_or_imp, forall_eq, forall_const, cond_true, cond_false, decide_true, decide_false, true_imp_iff, implies_true, Int.cast_ofNat_Int, forall_eq']
  unfold usableB
  by_cases h1 : validE p = 0 <;> by_cases h2 : up.length = p.cs.length <;> simp [h1, h2] <;> omega
def distsE (p : Pl) (r : Int) (up : List Bool) : List Int := bif usableB p up && (decide (0 ≤ r) && decide (r < p.ns.length)) then distL p.ns.length (upU p.cs up) r else []
theorem ev_dists (p : Pl) (hp : PlOk p) (r : Int) (up : List Bool) : Ev Try.prog 26 [plV p, .sc (.int .i64 r), boolsV up] (intsV (distsE p r up)) := by
  have h36 := ev_usable p hp up
  have h37 := fun hv => ev_distances p up r hv
  unfold plV boolsV intsV at *
  refine ev_fn Try.func26 comp26 (show 3 ≤ Try.f26.ntmps by decide) ?_; unfold cf26 rf26; simp only [↓EVP0, EVQ0, EVQ1, EVQ2, EVQ3, EVQ4, EVA, EVK, EVF, ↓reduceIte, Nat.reduceEqDiff, Nat.reduceAdd, Nat.reduceSub, Nat.reduceMul, Nat.reduceLT, Nat.reduceLeDiff, reduceCtorEq, Int.reduceToNat, Int.reduceLT, Int.reduceLE, Int.reduceAdd, Int.reduceSub, Int.reduceMul, Int.reduceNeg, Int.reduceEq, Nat.reduceMod, forall_eq_or_imp, forall_eq, forall_const, cond_true, cond_false, decide_true, decide_false, true_imp_iff, implies_true, Int.cast_ofNat_Int, forall_eq']
  refine callK_ro h36 ?_ ?_
  · simp only [↓EVP0, EVQ0, EVQ1, EVQ2, EVQ3, EVQ4, EVA, EVK, EVF, ↓reduceIte, Nat.reduceEqDiff, Nat.reduceAdd, Nat.reduceSub, Nat.reduceMul, Nat.reduceLT, Nat.reduceLeDiff, reduceCtorEq, Int.reduceToNat, Int.reduceLT, Int.reduceLE, Int.reduceAdd, Int.reduceSub, Int.reduceMul, Int.reduceNeg, Int.reduceEq, Nat.reduceMod, forall_eq_or_imp, forall_eq, forall_const, cond_true, cond_false, decide_true, decide_false, true_imp_iff, implies_true, Int.cast_ofNat_Int, forall_eq']
  simp only [↓EVP0, EVQ0, EVQ1, EVQ2, EVQ3, EVQ4, EVA, EVK, EVF, ↓reduceIte, Nat.reduceEqDiff, Nat.reduceAdd, Nat.reduceSub, Nat.reduceMul, Nat.reduceLT, Nat.reduceLeDiff, reduceCtorEq, Int.reduceToNat, Int.reduceLT, Int.reduceLE, Int.reduceAdd, Int.reduceSub, Int.reduceMul, Int.reduceNeg, Int.reduceEq, Nat.reduceMod, forall_eq_or_imp, forall_eq, forall_const, cond_true, cond_false, decide_true, decide_false, true_imp_iff, implies_true, Int.cast_ofNat_Int, forall_eq']
  refine ⟨fun hg => ?_, fun hg => ?_⟩
  · unfold distsE
    have : (usableB p up && (decide (0 ≤ r) && decide (r < p.ns.length))) = false := by
      revert hg; cases usableB p up <;> simp <;> omega
    rw [this]; rfl
  · have hu : usableB p up = true ∧ 0 ≤ r ∧ r < p.ns.length := by
      revert hg; cases usableB p up <;> simp <;> omega
    have hd : distsE p r up = distL p.ns.length (upU p.cs up) r := by
      unfold distsE; simp [hu]
    have hu2 := hu.1
    simp only [usableB, Bool.and_eq_true, decide_eq_true_eq] at hu2
    have hv := valid_of hu2.1
    refine callK_ro (h37 hv.n16 hv.c32 hv.cab hu.2 hu2.2) ?_ ?_
    · simp only [↓EVP0, EVQ0, EVQ1, EVQ2, EVQ3, EVQ4, EVA, EVK, EVF, ↓reduceIte, Nat.reduceEqDiff, Nat.reduceAdd, Nat.reduceSub, Nat.reduceMul, Nat.reduceLT, Nat.reduceLeDiff, reduceCtorEq, Int.reduceToNat, Int.reduceLT, Int.reduceLE, Int.reduceAdd, Int.reduceSub, Int.reduceMul, Int.reduceNeg, Int.reduceEq, Nat.reduceMod, forall_eq_or_imp, forall_eq, forall_const, cond_true, cond_false, decide_true, decide_false, true_imp_iff, implies_true, Int.cast_ofNat_Int, forall_eq']
    simp only [↓EVP0, EVQ0, EVQ1, EVQ2, EVQ3, EVQ4, EVA, EVK, EVF, ↓reduceIte, Nat.reduceEqDiff, Nat.reduceAdd, Nat.reduceSub, Nat.reduceMul, Nat.reduceLT, Nat.reduceLeDiff, reduceCtorEq, Int.reduceToNat, Int.reduceLT, Int.reduceLE, Int.reduceAdd, Int.reduceSub, Int.reduceMul, Int.reduceNeg, Int.reduceEq, Nat.reduceMod, forall_eq_or_imp, forall_eq, forall_const, cond_true, cond_false, decide_true, decide_false, true_imp_iff, implies_true, Int.cast_ofNat_Int, forall_eq']
    rw [hd]

/-- What Of hands back. -/
def ofE (p : Pl) (up : List Bool) (r : Int) : List Int × Int :=
  bif !usableB p up then ([], 1) else bif decide (r < 0) || decide ((p.ns.length : Int) ≤ r) then ([], 2) else (distL p.ns.length (upU p.cs up) r, 0)
theorem ev_of (p : Pl) (hp : PlOk p) (up : List Bool) (r : Int) : Ev Try.prog 11 [plV p, boolsV up, .sc (.int .i64 r)] (.tup [.agg [intsV (ofE p up r).1], .sc (.int .i64 (ofE p up r).2)]) := by
  have h25 := ev_valid p hp
  have h26 := ev_dists p hp r up
  unfold plV boolsV intsV at *
  refine ev_fn Try.func11 comp11 (show 3 ≤ Try.f11.ntmps by decide) ?_; unfold cf11 rf11; simp only [↓EVP0, EVQ0, EVQ1, EVQ2, EVQ3, EVQ4, EVA, EVK, EVF, ↓reduceIte, Nat.reduceEqDiff, Nat.reduceAdd, Nat.reduceSub, Nat.reduceMul, Nat.reduceLT, Nat.reduceLeDiff, reduceCtorEq, Int.reduceToNat, Int.reduceLT, Int.reduceLE, Int.reduceAdd, Int.reduceSub, Int.reduceMul, Int.reduceNeg, Int.reduceEq, Nat.reduceMod, forall_eq_or_imp, forall_eq, forall_const, cond_true, cond_false, decide_true, decide_false, true_imp_iff, implies_true, Int.cast_ofNat_Int, forall_eq']
  refine callK_ro h25 ?_ ?_
  · simp only [↓EVP0, EVQ0, EVQ1, EVQ2, EVQ3, EVQ4, EVA, EVK, EVF, ↓reduceIte, Nat.reduceEqDiff, Nat.reduceAdd, Nat.reduceSub, Nat.reduceMul, Nat.reduceLT, Nat.reduceLeDiff, reduceCtorEq, Int.reduceToNat, Int.reduceLT, Int.reduceLE, Int.reduceAdd, Int.reduceSub, Int.reduceMul, Int.reduceNeg, Int.reduceEq, Nat.reduceMod, forall_eq_or_imp, forall_eq, forall_const, cond_true, cond_false, decide_true, decide_false, true_imp_iff, implies_true, Int.cast_ofNat_Int, forall_eq']
  simp only [↓EVP0, EVQ0, EVQ1, EVQ2, EVQ3, EVQ4, EVA, EVK, EVF, ↓reduceIte, Nat.reduceEqDiff, Nat.reduceAdd, Nat.reduceSub, Nat.reduceMul, Nat.reduceLT, Nat.reduceLeDiff, reduceCtorEq, Int.reduceToNat, Int.reduceLT, Int.reduceLE, Int.reduceAdd, Int.reduceSub, Int.reduceMul, Int.reduceNeg, Int.reduceEq, Nat.reduceMod, forall_eq_or_imp, forall_eq, forall_const, cond_true, cond_false, decide_true, decide_false, true_imp_iff, implies_true, Int.cast_ofNat_Int, forall_eq']
  have hu : usableB p up = (decide (validE p = 0) && decide (up.length = p.cs.length)) := rfl
  refine ⟨fun hg => ?_, fun hg => ⟨fun h2 => ?_, fun h2 => ?_⟩⟩
  · have : usableB p up = false := by
      rw [hu]; revert hg; cases decide (validE p = 0) <;> simp; omega
    simp [ofE, this]
  · have h1 : usableB p up = true := by
      rw [hu]; revert hg; cases decide (validE p = 0) <;> simp; omega
    have h2' : (decide (r < 0) || decide ((p.ns.length : Int) ≤ r)) = true := by revert h2; cases decide (r < 0) <;> simp
    simp [ofE, h1, h2']
  · have h1 : usableB p up = true := by
      rw [hu]; revert hg; cases decide (validE p = 0) <;> simp; omega
    have h2' : (decide (r < 0) || decide ((p.ns.length : Int) ≤ r)) = false := by revert h2; cases decide (r < 0) <;> simp
    have h3 : distsE p r up = distL p.ns.length (upU p.cs up) r := by
      simp at h2'
      unfold distsE
      have : (usableB p up && (decide (0 ≤ r) && decide (r < p.ns.length))) = true := by simp [h1]; omega
      rw [this]; rfl
    refine callK_ro h26 ?_ ?_
    · simp only [↓EVP0, EVQ0, EVQ1, EVQ2, EVQ3, EVQ4, EVA, EVK, EVF, ↓reduceIte, Nat.reduceEqDiff, Nat.reduceAdd, Nat.reduceSub, Nat.reduceMul, Nat.reduceLT, Nat.reduceLeDiff, reduceCtorEq, Int.reduceToNat, Int.reduceLT, Int.reduceLE, Int.reduceAdd, Int.reduceSub, Int.reduceMul, Int.reduceNeg, Int.reduceEq, Nat.reduceMod, forall_eq_or_imp, forall_eq, forall_const, cond_true, cond_false, decide_true, decide_false, true_imp_iff, implies_true, Int.cast_ofNat_Int, forall_eq']
    simp only [↓EVP0, EVQ0, EVQ1, EVQ2, EVQ3, EVQ4, EVA, EVK, EVF, ↓reduceIte, Nat.reduceEqDiff, Nat.reduceAdd, Nat.reduceSub, Nat.reduceMul, Nat.reduceLT, Nat.reduceLeDiff, reduceCtorEq, Int.reduceToNat, Int.reduceLT, Int.reduceLE, Int.reduceAdd, Int.reduceSub, Int.reduceMul, Int.reduceNeg, Int.reduceEq, Nat.reduceMod, forall_eq_or_imp, forall_eq, forall_const, cond_true, cond_false, decide_true, decide_false, true_imp_iff, implies_true, Int.cast_ofNat_Int, forall_eq']
    simp only [ofE, h1, h2', h3, Bool.not_true, cond_false]
    trivial
end Go.Proofs.Ytggaonafmiklaaa
