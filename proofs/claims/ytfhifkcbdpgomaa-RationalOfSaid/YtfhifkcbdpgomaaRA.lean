/- Rational numbers as plain data; numbers of 64 bits without a sign; the greatest common divisor. Conditions: none. -/
import Derived.Test.YtfhifkcbdpgomaaC1
namespace Go.Proofs.Ytfhifkcbdpgomaa
set_option linter.unusedSimpArgs false
set_option linter.unusedVariables false
open Go.RowKit

structure Rt where
  n : Int
  d : Int
deriving DecidableEq
instance : Inhabited Rt := ⟨⟨0, 0⟩⟩
def rtL (r : Rt) : List LV := [.sc (.int .i64 r.n), .sc (.int .i64 r.d)]
def rtsF (l : List Rt) (i : Nat) : List LV := rtL (l.getD i default)
def ratV (r : Rt) : LV := .agg [.sc (.int .i64 r.n), .sc (.int .i64 r.d)]
def ratsV (l : List Rt) : LV := .rsl 2 l.length (rtsF l)
theorem rtsF_eq (l : List Rt) (i : Nat) : rtsF l i = [.sc (.int .i64 (l.getD i default).n), .sc (.int .i64 (l.getD i default).d)] := rfl
def intsF (l : List Int) (i : Nat) : List LV := [.sc (.int .i64 (l.getD i 0))]
def intsV (l : List Int) : LV := .rsl 1 l.length (intsF l)
def RtOk (r : Rt) : Prop := In64 r.n ∧ In64 r.d
def U64 (n : Nat) : LV := .sc (.int .u64 (n : Int))
theorem wrap_u64 (x : Int) : IntKind.u64.wrap x = x % 18446744073709551616 := IntKind.wrap_u64 x
theorem and_mask (x : Int) : andI .u64 x 4294967295 = x % 4294967296 := by
  unfold andI
  rw [wrap_u64]
  have h1 : (BitVec.ofInt IntKind.u64.bits x).toNat = (x % 18446744073709551616).toNat := BitVec.toNat_ofInt (n := 64) x
  have h2 : (BitVec.ofInt IntKind.u64.bits 4294967295).toNat = 2 ^ 32 - 1 := by decide
  rw [BitVec.toNat_and, h1, h2, Nat.and_two_pow_sub_one_eq_mod]
  omega
theorem fdiv_32 (x : Int) : x.fdiv (2 ^ 32) = x / 4294967296 := Int.fdiv_eq_ediv_of_nonneg _ (by decide)
theorem EVFR : (∀ (l : List Int) (i : Nat), intsF l i = [.sc (.int .i64 (l.getD i 0))]) ∧ (∀ (l : List Rt) (i : Nat), rtsF l i = [.sc (.int .i64 (l.getD i default).n), .sc (.int .i64 (l.getD i default).d)]) ∧ (∀ n : Nat, U64 n = .sc (.int .u64 (n : Int))) ∧ (∀ x : Int, IntKind.u64.wrap x = x % 18446744073709551616) ∧
    (∀ x : Int, andI .u64 x 4294967295 = x % 4294967296) ∧ (∀ x : Int, x.fdiv (2 ^ 32) = x / 4294967296) ∧ IntKind.u64.bits = 64 ∧ IntKind.i64.bits = 64 := ⟨fun _ _ => rfl, rtsF_eq, fun _ => rfl, wrap_u64, and_mask, fdiv_32, rfl, rfl⟩

theorem ev_gcd (a b : Nat) : Ev Try.prog 32 [U64 a, U64 b] (U64 (Nat.gcd a b)) := by
  refine ev_fn Try.func32 comp32 (show 2 ≤ Try.f32.ntmps by decide) ?_; unfold cf32 rf32; simp only [↓EVP0, EVQ0, EVQ1, EVQ2, EVQ3, EVQ4, EVA, EVK, EVFR, ↓reduceIte, Nat.reduceEqDiff, Nat.reduceAdd, Nat.reduceSub, Nat.reduceMul, Nat.reduceLT, Nat.reduceLeDiff, reduceCtorEq, Int.reduceToNat, Int.reduceLT, Int.reduceLE, Int.reduceAdd, Int.reduceSub, Int.reduceMul, Int.reduceNeg, Int.reduceEq, Nat.reduceMod, forall_eq_or_imp, forall_eq, forall_const, cond_true, cond_false, decide_true, decide_false, true_imp_iff, implies_true, Int.cast_ofNat_Int, forall_eq']
  refine lwp_loop (α := Nat × Nat) (fun q => Nat.gcd q.1 q.2 = Nat.gcd a b) (fun q => [(0, .sc (.int .u64 (q.1 : Int))), (1, .sc (.int .u64 (q.2 : Int)))]) (fun _ => []) (fun q => q.2) (a, b) rfl ?_ (fun _ => Nat.zero_le _) ?_
  · simp only [↓EVP0, EVQ0, EVQ1, EVQ2, EVQ3, EVQ4, EVA, EVK, EVFR, ↓reduceIte, Nat.reduceEqDiff, Nat.reduceAdd, Nat.reduceSub, Nat.reduceMul, Nat.reduceLT, Nat.reduceLeDiff, reduceCtorEq, Int.reduceToNat, Int.reduceLT, Int.reduceLE, Int.reduceAdd, Int.reduceSub, Int.reduceMul, Int.reduceNeg, Int.reduceEq, Nat.reduceMod, forall_eq_or_imp, forall_eq, forall_const, cond_true, cond_false, decide_true, decide_false, true_imp_iff, implies_true, Int.cast_ofNat_Int, forall_eq']
  rintro ⟨x, y⟩ hxy
  unfold lb32_0
  simp only [↓EVP0, EVQ0, EVQ1, EVQ2, EVQ3, EVQ4, EVA, EVK, EVFR, ↓reduceIte, Nat.reduceEqDiff, Nat.reduceAdd, Nat.reduceSub, Nat.reduceMul, Nat.reduceLT, Nat.reduceLeDiff, reduceCtorEq, Int.reduceToNat, Int.reduceLT, Int.reduceLE, Int.reduceAdd, Int.reduceSub, Int.reduceMul, Int.reduceNeg, Int.reduceEq, Nat.reduceMod, forall_eq_or_imp, forall_eq, forall_const, cond_true, cond_false, decide_true, decide_false, true_imp_iff, implies_true, Int.cast_ofNat_Int, forall_eq']
  refine ⟨fun h => ⟨by simp at h; omega, (y, x % y), ?_, ⟨rfl, (Int.ofNat_tmod x y).symm⟩, ?_⟩, fun h => ?_⟩
  · simp only at hxy ⊢
    rw [← hxy, Nat.gcd_comm x y, Nat.gcd_rec y x, Nat.gcd_comm]
  · simp at h
    exact Nat.mod_lt _ (by omega)
  · have : y = 0 := by simp at h; omega
    subst this
    simp only [Nat.gcd_zero_right] at hxy
    rw [hxy]
theorem condT (x y : Bool) : (bif x then true else y) = (x || y) := by cases x <;> rfl
theorem condF (x y : Bool) : (bif x then y else false) = (x && y) := by cases x <;> rfl
def mag (n : Int) : Nat := n.natAbs
theorem mag_le {n : Int} (h : In64 n) : mag n ≤ 9223372036854775808 := by unfold In64 at h; unfold mag; omega
theorem ev_size (n : Int) (h : In64 n) : Ev Try.prog 33 [.sc (.int .i64 n)] (U64 (mag n)) := by
  refine ev_fn Try.func33 comp33 (show 1 ≤ Try.f33.ntmps by decide) ?_; unfold cf33 rf33; simp only [↓EVP0, EVQ0, EVQ1, EVQ2, EVQ3, EVQ4, EVA, EVK, EVFR, ↓reduceIte, Nat.reduceEqDiff, Nat.reduceAdd, Nat.reduceSub, Nat.reduceMul, Nat.reduceLT, Nat.reduceLeDiff, reduceCtorEq, Int.reduceToNat, Int.reduceLT, Int.reduceLE, Int.reduceAdd, Int.reduceSub, Int.reduceMul, Int.reduceNeg, Int.reduceEq, Nat.reduceMod, forall_eq_or_imp, forall_eq, forall_const, cond_true, cond_false, decide_true, decide_false, true_imp_iff, implies_true, Int.cast_ofNat_Int, forall_eq']
  unfold In64 at h
  unfold mag
  refine ⟨fun g => ?_, fun g => ?_⟩
  · simp at g; omega
  · simp at g; omega
/-- What the program calls valid. -/
def vldR (r : Rt) : Bool := (decide (r.n = 0) && decide (r.d = 0)) || (decide (1 ≤ r.d) && (decide (r.d ≤ 1152921504606846976) && (decide (-1152921504606846976 ≤ r.n) && (decide (r.n ≤ 1152921504606846976) && decide (Nat.gcd (mag r.n) (mag r.d) = 1)))))
theorem ev_valid (r : Rt) (hr : RtOk r) : Ev Try.prog 15 [ratV r] (.sc (.bool (vldR r))) := by
  have h1 := ev_size r.n hr.1
  have h2 := ev_size r.d hr.2
  have h3 := ev_gcd
  unfold ratV
  refine ev_fn Try.func15 comp15 (show 1 ≤ Try.f15.ntmps by decide) ?_; unfold cf15 rf15; simp only [↓EVP0, EVQ0, EVQ1, EVQ2, EVQ3, EVQ4, EVA, EVK, EVFR, ↓reduceIte, Nat.reduceEqDiff, Nat.reduceAdd, Nat.reduceSub, Nat.reduceMul, Nat.reduceLT, Nat.reduceLeDiff, reduceCtorEq, Int.reduceToNat, Int.reduceLT, Int.reduceLE, Int.reduceAdd, Int.reduceSub, Int.reduceMul, Int.reduceNeg, Int.reduceEq, Nat.reduceMod, forall_eq_or_imp, forall_eq, forall_const, cond_true, cond_false, decide_true, decide_false, true_imp_iff, implies_true, Int.cast_ofNat_Int, forall_eq']
  refine ⟨fun g => ?_, fun g => ?_⟩
  · have : vldR r = true := by
      unfold vldR
      cases h : decide (r.n = 0) <;> rw [h] at g <;> simp at g
      simp [g]
    rw [this]
  (first | refine lopsQ_gcall ?_ | refine lopsQ_gecl ?_); (simp only [↓EVP0, EVQ0, EVQ1, EVQ2, EVQ3, EVQ4, EVA, EVK, EVFR, ↓reduceIte, Nat.reduceEqDiff, Nat.reduceAdd, Nat.reduceSub, Nat.reduceMul, Nat.reduceLT, Nat.reduceLeDiff, reduceCtorEq, Int.reduceToNat, Int.reduceLT, Int.reduceLE, Int.reduceAdd, Int.reduceSub, Int.reduceMul, Int.reduceNeg, Int.reduceEq, Nat.reduceMod, forall_eq_or_imp, forall_eq, forall_const, cond_true, cond_false, decide_true, decide_false, true_imp_iff, implies_true, Int.cast_ofNat_Int, forall_eq'])
  first | refine gCallK_ro _ (fun _ => h1) (fun _ => ?_) ?_ | refine geCallK_ro _ (fun _ => h1) (fun _ => ?_) ?_
  · simp only [↓EVP0, EVQ0, EVQ1, EVQ2, EVQ3, EVQ4, EVA, EVK, EVFR, ↓reduceIte, Nat.reduceEqDiff, Nat.reduceAdd, Nat.reduceSub, Nat.reduceMul, Nat.reduceLT, Nat.reduceLeDiff, reduceCtorEq, Int.reduceToNat, Int.reduceLT, Int.reduceLE, Int.reduceAdd, Int.reduceSub, Int.reduceMul, Int.reduceNeg, Int.reduceEq, Nat.reduceMod, forall_eq_or_imp, forall_eq, forall_const, cond_true, cond_false, decide_true, decide_false, true_imp_iff, implies_true, Int.cast_ofNat_Int, forall_eq']
  simp only [↓EVP0, EVQ0, EVQ1, EVQ2, EVQ3, EVQ4, EVA, EVK, EVFR, ↓reduceIte, Nat.reduceEqDiff, Nat.reduceAdd, Nat.reduceSub, Nat.reduceMul, Nat.reduceLT, Nat.reduceLeDiff, reduceCtorEq, Int.reduceToNat, Int.reduceLT, Int.reduceLE, Int.reduceAdd, Int.reduceSub, Int.reduceMul, Int.reduceNeg, Int.reduceEq, Nat.reduceMod, forall_eq_or_imp, forall_eq, forall_const, cond_true, cond_false, decide_true, decide_false, true_imp_iff, implies_true, Int.cast_ofNat_Int, forall_eq']
  (first | refine lopsQ_gcall ?_ | refine lopsQ_gecl ?_); (simp only [↓EVP0, EVQ0, EVQ1, EVQ2, EVQ3, EVQ4, EVA, EVK, EVFR, ↓reduceIte, Nat.reduceEqDiff, Nat.reduceAdd, Nat.reduceSub, Nat.reduceMul, Nat.reduceLT, Nat.reduceLeDiff, reduceCtorEq, Int.reduceToNat, Int.reduceLT, Int.reduceLE, Int.reduceAdd, Int.reduceSub, Int.reduceMul, Int.reduceNeg, Int.reduceEq, Nat.reduceMod, forall_eq_or_imp, forall_eq, forall_const, cond_true, cond_false, decide_true, decide_false, true_imp_iff, implies_true, Int.cast_ofNat_Int, forall_eq'])
  first | refine gCallK_ro _ (fun _ => h2) (fun _ => ?_) ?_ | refine geCallK_ro _ (fun _ => h2) (fun _ => ?_) ?_
  · simp only [↓EVP0, EVQ0, EVQ1, EVQ2, EVQ3, EVQ4, EVA, EVK, EVFR, ↓reduceIte, Nat.reduceEqDiff, Nat.reduceAdd, Nat.reduceSub, Nat.reduceMul, Nat.reduceLT, Nat.reduceLeDiff, reduceCtorEq, Int.reduceToNat, Int.reduceLT, Int.reduceLE, Int.reduceAdd, Int.reduceSub, Int.reduceMul, Int.reduceNeg, Int.reduceEq, Nat.reduceMod, forall_eq_or_imp, forall_eq, forall_const, cond_true, cond_false, decide_true, decide_false, true_imp_iff, implies_true, Int.cast_ofNat_Int, forall_eq']
  simp only [↓EVP0, EVQ0, EVQ1, EVQ2, EVQ3, EVQ4, EVA, EVK, EVFR, ↓reduceIte, Nat.reduceEqDiff, Nat.reduceAdd, Nat.reduceSub, Nat.reduceMul, Nat.reduceLT, Nat.reduceLeDiff, reduceCtorEq, Int.reduceToNat, Int.reduceLT, Int.reduceLE, Int.reduceAdd, Int.reduceSub, Int.reduceMul, Int.reduceNeg, Int.reduceEq, Nat.reduceMod, forall_eq_or_imp, forall_eq, forall_const, cond_true, cond_false, decide_true, decide_false, true_imp_iff, implies_true, Int.cast_ofNat_Int, forall_eq']
  (first | refine lopsQ_gcall ?_ | refine lopsQ_gecl ?_); (simp only [↓EVP0, EVQ0, EVQ1, EVQ2, EVQ3, EVQ4, EVA, EVK, EVFR, ↓reduceIte, Nat.reduceEqDiff, Nat.reduceAdd, Nat.reduceSub, Nat.reduceMul, Nat.reduceLT, Nat.reduceLeDiff, reduceCtorEq, Int.reduceToNat, Int.reduceLT, Int.reduceLE, Int.reduceAdd, Int.reduceSub, Int.reduceMul, Int.reduceNeg, Int.reduceEq, Nat.reduceMod, forall_eq_or_imp, forall_eq, forall_const, cond_true, cond_false, decide_true, decide_false, true_imp_iff, implies_true, Int.cast_ofNat_Int, forall_eq'])
  first | refine gCallK_ro _ (fun _ => h3 _ _) (fun _ => ?_) ?_ | refine geCallK_ro _ (fun _ => h3 _ _) (fun _ => ?_) ?_
  · simp only [↓EVP0, EVQ0, EVQ1, EVQ2, EVQ3, EVQ4, EVA, EVK, EVFR, ↓reduceIte, Nat.reduceEqDiff, Nat.reduceAdd, Nat.reduceSub, Nat.reduceMul, Nat.reduceLT, Nat.reduceLeDiff, reduceCtorEq, Int.reduceToNat, Int.reduceLT, Int.reduceLE, Int.reduceAdd, Int.reduceSub, Int.reduceMul, Int.reduceNeg, Int.reduceEq, Nat.reduceMod, forall_eq_or_imp, forall_eq, forall_const, cond_true, cond_false, decide_true, decide_false, true_imp_iff, implies_true, Int.cast_ofNat_Int, forall_eq']
  simp only [↓EVP0, EVQ0, EVQ1, EVQ2, EVQ3, EVQ4, EVA, EVK, EVFR, ↓reduceIte, Nat.reduceEqDiff, Nat.reduceAdd, Nat.reduceSub, Nat.reduceMul, Nat.reduceLT, Nat.reduceLeDiff, reduceCtorEq, Int.reduceToNat, Int.reduceLT, Int.reduceLE, Int.reduceAdd, Int.reduceSub, Int.reduceMul, Int.reduceNeg, Int.reduceEq, Nat.reduceMod, forall_eq_or_imp, forall_eq, forall_const, cond_true, cond_false, decide_true, decide_false, true_imp_iff, implies_true, Int.cast_ofNat_Int, forall_eq']
  simp only [condF] at g ⊢
  unfold vldR
  rw [g, Bool.false_or]
  have e : ∀ n : Nat, decide ((n : Int) = 1) = decide (n = 1) := fun n => by
    by_cases h : n = 1
    · subst h; rfl
    · have : ¬ (n : Int) = 1 := by omega
      simp [h, this]
  rw [e]
  cases decide (1 ≤ r.d) <;> cases decide (r.d ≤ 1152921504606846976) <;> cases decide (-1152921504606846976 ≤ r.n) <;> cases decide (r.n ≤ 1152921504606846976) <;> rfl
end Go.Proofs.Ytfhifkcbdpgomaa
