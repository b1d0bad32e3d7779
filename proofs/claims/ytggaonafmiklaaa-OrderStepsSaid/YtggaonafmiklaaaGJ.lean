/- Chapter 17's small helpers of the statements. Conditions: none. -/
import Derived.Test.YtggaonafmiklaaaGI
namespace Go.Proofs.Ytggaonafmiklaaa
set_option linter.unusedSimpArgs false
set_option linter.unusedVariables false
open Go.RowKit

def fewB (p : Pl) : Bool := decide (p.ns.length ≤ 40) && decide (p.cs.length ≤ 40)
theorem ev_few (p : Pl) : Ev Try.prog 10 [plV p] (.sc (.bool (fewB p))) := by
  unfold plV
  refine ev_fn Try.func10 comp10 (show 1 ≤ Try.f10.ntmps by decide) ?_; unfold cf10 rf10; simp only [↓EVP0, EVQ0, EVQ1, EVQ2, EVQ3, EVQ4, EVA, EVK, EVF, ↓reduceIte, Nat.reduceEqDiff, Nat.reduceAdd, Nat.reduceSub, Nat.reduceMul, Nat.reduceLT, Nat.reduceLeDiff, reduceCtorEq, Int.reduceToNat, Int.reduceLT, Int.reduceLE, Int.reduceAdd, Int.reduceSub, Int.reduceMul, Int.reduceNeg, Int.reduceEq, Nat.reduceMod, forall_eq_or_imp, forall_eq, forall_const, cond_true, cond_false, decide_true, decide_false, true_imp_iff, implies_true, Int.cast_ofNat_Int, forall_eq']
  intro _
  unfold fewB
  by_cases h1 : p.ns.length ≤ 40 <;> by_cases h2 : p.cs.length ≤ 40 <;> simp [h1, h2] <;> omega
theorem ev_good (p : Pl) (hp : PlOk p) : Ev Try.prog 12 [plV p] (.sc (.bool (decide (validE p = 0)))) := by
  have h25 := ev_valid p hp
  unfold plV at *
  refine ev_fn Try.func12 comp12 (show 1 ≤ Try.f12.ntmps by decide) ?_; unfold cf12 rf12; simp only [↓EVP0, EVQ0, EVQ1, EVQ2, EVQ3, EVQ4, EVA, EVK, EVF, ↓reduceIte, Nat.reduceEqDiff, Nat.reduceAdd, Nat.reduceSub, Nat.reduceMul, Nat.reduceLT, Nat.reduceLeDiff, reduceCtorEq, Int.reduceToNat, Int.reduceLT, Int.reduceLE, Int.reduceAdd, Int.reduceSub, Int.reduceMul, Int.reduceNeg, Int.reduceEq, Nat.reduceMod, forall_eq_or_imp, forall_eq, forall_const, cond_true, cond_false, decide_true, decide_false, true_imp_iff, implies_true, Int.cast_ofNat_Int, forall_eq']
  refine callK_ro h25 ?_ ?_
  · simp only [↓EVP0, EVQ0, EVQ1, EVQ2, EVQ3, EVQ4, EVA, EVK, EVF, ↓reduceIte, Nat.reduceEqDiff, Nat.reduceAdd, Nat.reduceSub, Nat.reduceMul, Nat.reduceLT, Nat.reduceLeDiff, reduceCtorEq, Int.reduceToNat, Int.reduceLT, Int.reduceLE, Int.reduceAdd, Int.reduceSub, Int.reduceMul, Int.reduceNeg, Int.reduceEq, Nat.reduceMod, forall_eq_or_imp, forall_eq, forall_const, cond_true, cond_false, decide_true, decide_false, true_imp_iff, implies_true, Int.cast_ofNat_Int, forall_eq']
  simp only [↓EVP0, EVQ0, EVQ1, EVQ2, EVQ3, EVQ4, EVA, EVK, EVF, ↓reduceIte, Nat.reduceEqDiff, Nat.reduceAdd, Nat.reduceSub, Nat.reduceMul, Nat.reduceLT, Nat.reduceLeDiff, reduceCtorEq, Int.reduceToNat, Int.reduceLT, Int.reduceLE, Int.reduceAdd, Int.reduceSub, Int.reduceMul, Int.reduceNeg, Int.reduceEq, Nat.reduceMod, forall_eq_or_imp, forall_eq, forall_const, cond_true, cond_false, decide_true, decide_false, true_imp_iff, implies_true, Int.cast_ofNat_Int, forall_eq']
def triPl : Pl := ⟨[⟨⟨#[97]⟩, true, 2⟩, ⟨⟨#[98]⟩, true, 2⟩, ⟨⟨#[99]⟩, true, 2⟩], [⟨0, 0, 1, 0, 1, 1⟩, ⟨1, 1, 2, 0, 1, 1⟩, ⟨2, 1, 0, 1, 1, 1⟩]⟩
theorem lt3 {i : Nat} (h : i < 3) : i = 0 ∨ i = 1 ∨ i = 2 := by omega
theorem ev_triangle : Ev Try.prog 24 [] (plV triPl) := by
  unfold plV triPl
  refine ev_fn Try.func24 comp24 (show 0 ≤ Try.f24.ntmps by decide) ?_; unfold cf24 rf24; simp only [↓EVP0, EVQ0, EVQ1, EVQ2, EVQ3, EVQ4, EVA, EVK, EVF, ↓reduceIte, Nat.reduceEqDiff, Nat.reduceAdd, Nat.reduceSub, Nat.reduceMul, Nat.reduceLT, Nat.reduceLeDiff, reduceCtorEq, Int.reduceToNat, Int.reduceLT, Int.reduceLE, Int.reduceAdd, Int.reduceSub, Int.reduceMul, Int.reduceNeg, Int.reduceEq, Nat.reduceMod, forall_eq_or_imp, forall_eq, forall_const, cond_true, cond_false, decide_true, decide_false, true_imp_iff, implies_true, Int.cast_ofNat_Int, forall_eq']
  refine ⟨⟨fun i hi => ?_, fun i hi => ?_⟩, fun i hi => ?_, fun i hi => ?_⟩ <;> rcases lt3 hi with rfl | rfl | rfl <;> rfl
end Go.Proofs.Ytggaonafmiklaaa
