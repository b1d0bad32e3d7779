/- Rational numbers as plain data; numbers of 64 bits without a sign; the greatest common divisor; The product of two numbers of 64 bits; comparing numbers of 128 bits; The number of bits of a number; The quotient of a number of 128 bits by one of 64: the plain law; The quotient of a number of 128 bits by one of 64: the library's own steps; Rational numbers in lowest terms: sums and products with small divisors; Of, Add, Sub, Mul, Div, Cmp, Floor; Mul, Sub, Div, Cmp, Floor, Sum; Cmp, Floor, Sum; The text of a rational number, and how a text is read; How the reference reads a rational number, in plain terms; Plain laws of numbers in lowest terms: the field laws, what undoes, the order; The reference's functions on small numbers; The reference's texts of rational numbers; The reference reads a rational number. Conditions: none. -/
import Derived.Test.YtdfiicpikcdokaaGreatDoorME
import Derived.Laws.Externs
import Derived.Shelf.Spec.BitsCarry
import Derived.Lib.ItoaLen
namespace Go.Proofs.YtdfiicpikcdokaaGreatDoor
set_option linter.unusedSimpArgs false
set_option linter.unusedVariables false
open Go.RowKit

structure Rt where
  n : Int
  d : Int
deriving DecidableEq
instance : Inhabited Rt := ⟨⟨0, 0⟩⟩
def rtL (r : Rt) : List LV := [.sc (.int .i64 r.n), .sc (.int .i64 r.d)]
def rtsF (l : List Rt) (i : Nat) : List LV := rtL (l.getD i default)
def ratV (r : Rt) : LV := .agg [.sc (.int .i64 r.n), .sc (.int .i64 r.d)]
def ratsV (l : List Rt) : LV := .rsl 2 l.length (rtsF l)
theorem rtsF_eq (l : List Rt) (i : Nat) : rtsF l i = [.sc (.int .i64 (l.getD i default).n), .sc (.int .i64 (l.getD i default).d)] := rfl
def intsF (l : List Int) (i : Nat) : List LV := [.sc (.int .i64 (l.getD i 0))]
def intsV (l : List Int) : LV := .rsl 1 l.length (intsF l)
def RtOk (r : Rt) : Prop := In64 r.n ∧ In64 r.d
def U64 (n : Nat) : LV := .sc (.int .u64 (n : Int))
theorem wrap_u64 (x : Int) : IntKind.u64.wrap x = x % 18446744073709551616 := IntKind.wrap_u64 x
theorem and_mask (x : Int) : andI .u64 x 4294967295 = x % 4294967296 := by
  unfold andI
  rw [wrap_u64]
  have h1 : (BitVec.ofInt IntKind.u64.bits x).toNat = (x % 18446744073709551616).toNat := BitVec.toNat_ofInt (n := 64) x
  have h2 : (BitVec.ofInt IntKind.u64.bits 4294967295).toNat = 2 ^ 32 - 1 := by decide
  rw [BitVec.toNat_and, h1, h2, Nat.and_two_pow_sub_one_eq_mod]
  omega
theorem fdiv_32 (x : Int) : x.fdiv (2 ^ 32) = x / 4294967296 := Int.fdiv_eq_ediv_of_nonneg _ (by decide)
theorem EVFR : (∀ (l : List Int) (i : Nat), intsF l i = [.sc (.int .i64 (l.getD i 0))]) ∧ (∀ (l : List Rt) (i : Nat), rtsF l i = [.sc (.int .i64 (l.getD i default).n), .sc (.int .i64 (l.getD i default).d)]) ∧ (∀ n : Nat, U64 n = .sc (.int .u64 (n : Int))) ∧ (∀ x : Int, IntKind.u64.wrap x = x % 18446744073709551616) ∧
    (∀ x : Int, andI .u64 x 4294967295 = x % 4294967296) ∧ (∀ x : Int, x.fdiv (2 ^ 32) = x / 4294967296) ∧ IntKind.u64.bits = 64 ∧ IntKind.i64.bits = 64 := ⟨fun _ _ => rfl, rtsF_eq, fun _ => rfl, wrap_u64, and_mask, fdiv_32, rfl, rfl⟩

theorem ev_gcd (a b : Nat) : Ev Tryz.prog 37 [U64 a, U64 b] (U64 (Nat.gcd a b)) := by
  refine ev_fn Tryz.func37 comp37 (show 2 ≤ Tryz.f37.ntmps by decide) ?_; unfold cf37 rf37; simp only [↓EVP0, EVQ0, EVQ1, EVQ2, EVQ3, EVQ4, EVA, EVK, EVFR, ↓reduceIte, Nat.reduceEqDiff, Nat.reduceAdd, Nat.reduceSub, Nat.reduceMul, Nat.reduceLT, Nat.reduceLeDiff, reduceCtorEq, Int.reduceToNat, Int.reduceLT, Int.reduceLE, Int.reduceAdd, Int.reduceSub, Int.reduceMul, Int.reduceNeg, Int.reduceEq, Nat.reduceMod, forall_eq_or_imp, forall_eq, forall_const, EVY, true_imp_iff, implies_true, Int.cast_ofNat_Int, forall_eq']
  refine lwp_loop (α := Nat × Nat) (fun q => Nat.gcd q.1 q.2 = Nat.gcd a b) (fun q => [(0, .sc (.int .u64 (q.1 : Int))), (1, .sc (.int .u64 (q.2 : Int)))]) (fun _ => []) (fun q => q.2) (a, b) rfl ?_ (fun _ => Nat.zero_le _) ?_
  · simp only [↓EVP0, EVQ0, EVQ1, EVQ2, EVQ3, EVQ4, EVA, EVK, EVFR, ↓reduceIte, Nat.reduceEqDiff, Nat.reduceAdd, Nat.reduceSub, Nat.reduceMul, Nat.reduceLT, Nat.reduceLeDiff, reduceCtorEq, Int.reduceToNat, Int.reduceLT, Int.reduceLE, Int.reduceAdd, Int.reduceSub, Int.reduceMul, Int.reduceNeg, Int.reduceEq, Nat.reduceMod, forall_eq_or_imp, forall_eq, forall_const, EVY, true_imp_iff, implies_true, Int.cast_ofNat_Int, forall_eq']
  rintro ⟨x, y⟩ hxy
  unfold lb37_0
  simp only [↓EVP0, EVQ0, EVQ1, EVQ2, EVQ3, EVQ4, EVA, EVK, EVFR, ↓reduceIte, Nat.reduceEqDiff, Nat.reduceAdd, Nat.reduceSub, Nat.reduceMul, Nat.reduceLT, Nat.reduceLeDiff, reduceCtorEq, Int.reduceToNat, Int.reduceLT, Int.reduceLE, Int.reduceAdd, Int.reduceSub, Int.reduceMul, Int.reduceNeg, Int.reduceEq, Nat.reduceMod, forall_eq_or_imp, forall_eq, forall_const, EVY, true_imp_iff, implies_true, Int.cast_ofNat_Int, forall_eq']
  refine ⟨fun h => ⟨by simp at h; omega, (y, x % y), ?_, ⟨rfl, (Int.ofNat_tmod x y).symm⟩, ?_⟩, fun h => ?_⟩
  · simp only at hxy ⊢
    rw [← hxy, Nat.gcd_comm x y, Nat.gcd_rec y x, Nat.gcd_comm]
  · simp at h
    exact Nat.mod_lt _ (by omega)
  · have : y = 0 := by simp at h; omega
    subst this
    simp only [Nat.gcd_zero_right] at hxy
    rw [hxy]
theorem condT (x y : Bool) : (bif x then true else y) = (x || y) := by cases x <;> rfl
theorem condF (x y : Bool) : (bif x then y else false) = (x && y) := by cases x <;> rfl
def mag (n : Int) : Nat := n.natAbs
theorem mag_le {n : Int} (h : In64 n) : mag n ≤ 9223372036854775808 := by unfold In64 at h; unfold mag; omega
theorem ev_size (n : Int) (h : In64 n) : Ev Tryz.prog 38 [.sc (.int .i64 n)] (U64 (mag n)) := by
  refine ev_fn Tryz.func38 comp38 (show 1 ≤ Tryz.f38.ntmps by decide) ?_; unfold cf38 rf38; simp only [↓EVP0, EVQ0, EVQ1, EVQ2, EVQ3, EVQ4, EVA, EVK, EVFR, ↓reduceIte, Nat.reduceEqDiff, Nat.reduceAdd, Nat.reduceSub, Nat.reduceMul, Nat.reduceLT, Nat.reduceLeDiff, reduceCtorEq, Int.reduceToNat, Int.reduceLT, Int.reduceLE, Int.reduceAdd, Int.reduceSub, Int.reduceMul, Int.reduceNeg, Int.reduceEq, Nat.reduceMod, forall_eq_or_imp, forall_eq, forall_const, EVY, true_imp_iff, implies_true, Int.cast_ofNat_Int, forall_eq']
  unfold In64 at h
  unfold mag
  refine ⟨fun g => ?_, fun g => ?_⟩
  · simp at g; omega
  · simp at g; omega
def vldR (r : Rt) : Bool := (decide (r.n = 0) && decide (r.d = 0)) || (decide (1 ≤ r.d) && (decide (r.d ≤ 1152921504606846976) && (decide (-1152921504606846976 ≤ r.n) && (decide (r.n ≤ 1152921504606846976) && decide (Nat.gcd (mag r.n) (mag r.d) = 1)))))
theorem ev_valid (r : Rt) (hr : RtOk r) : Ev Tryz.prog 20 [ratV r] (.sc (.bool (vldR r))) := by
  have h1 := ev_size r.n hr.1
  have h2 := ev_size r.d hr.2
  have h3 := ev_gcd
  unfold ratV
  refine ev_fn Tryz.func20 comp20 (show 1 ≤ Tryz.f20.ntmps by decide) ?_; unfold cf20 rf20; simp only [↓EVP0, EVQ0, EVQ1, EVQ2, EVQ3, EVQ4, EVA, EVK, EVFR, ↓reduceIte, Nat.reduceEqDiff, Nat.reduceAdd, Nat.reduceSub, Nat.reduceMul, Nat.reduceLT, Nat.reduceLeDiff, reduceCtorEq, Int.reduceToNat, Int.reduceLT, Int.reduceLE, Int.reduceAdd, Int.reduceSub, Int.reduceMul, Int.reduceNeg, Int.reduceEq, Nat.reduceMod, forall_eq_or_imp, forall_eq, forall_const, EVY, true_imp_iff, implies_true, Int.cast_ofNat_Int, forall_eq']
  refine ⟨fun g => ?_, fun g => ?_⟩
  · have : vldR r = true := by
      unfold vldR
      cases h : decide (r.n = 0) <;> rw [h] at g <;> simp at g
      simp [g]
    rw [this]
  (first | refine lopsQ_gcall ?_ | refine lopsQ_gecl ?_); (simp only [↓EVP0, EVQ0, EVQ1, EVQ2, EVQ3, EVQ4, EVA, EVK, EVFR, ↓reduceIte, Nat.reduceEqDiff, Nat.reduceAdd, Nat.reduceSub, Nat.reduceMul, Nat.reduceLT, Nat.reduceLeDiff, reduceCtorEq, Int.reduceToNat, Int.reduceLT, Int.reduceLE, Int.reduceAdd, Int.reduceSub, Int.reduceMul, Int.reduceNeg, Int.reduceEq, Nat.reduceMod, forall_eq_or_imp, forall_eq, forall_const, EVY, true_imp_iff, implies_true, Int.cast_ofNat_Int, forall_eq'])
  first | refine gCallK_ro _ (fun _ => h1) (fun _ => ?_) ?_ | refine geCallK_ro _ (fun _ => h1) (fun _ => ?_) ?_
  · simp only [↓EVP0, EVQ0, EVQ1, EVQ2, EVQ3, EVQ4, EVA, EVK, EVFR, ↓reduceIte, Nat.reduceEqDiff, Nat.reduceAdd, Nat.reduceSub, Nat.reduceMul, Nat.reduceLT, Nat.reduceLeDiff, reduceCtorEq, Int.reduceToNat, Int.reduceLT, Int.reduceLE, Int.reduceAdd, Int.reduceSub, Int.reduceMul, Int.reduceNeg, Int.reduceEq, Nat.reduceMod, forall_eq_or_imp, forall_eq, forall_const, EVY, true_imp_iff, implies_true, Int.cast_ofNat_Int, forall_eq']
  simp only [↓EVP0, EVQ0, EVQ1, EVQ2, EVQ3, EVQ4, EVA, EVK, EVFR, ↓reduceIte, Nat.reduceEqDiff, Nat.reduceAdd, Nat.reduceSub, Nat.reduceMul, Nat.reduceLT, Nat.reduceLeDiff, reduceCtorEq, Int.reduceToNat, Int.reduceLT, Int.reduceLE, Int.reduceAdd, Int.reduceSub, Int.reduceMul, Int.reduceNeg, Int.reduceEq, Nat.reduceMod, forall_eq_or_imp, forall_eq, forall_const, EVY, true_imp_iff, implies_true, Int.cast_ofNat_Int, forall_eq']
  (first | refine lopsQ_gcall ?_ | refine lopsQ_gecl ?_); (simp only [↓EVP0, EVQ0, EVQ1, EVQ2, EVQ3, EVQ4, EVA, EVK, EVFR, ↓reduceIte, Nat.reduceEqDiff, Nat.reduceAdd, Nat.reduceSub, Nat.reduceMul, Nat.reduceLT, Nat.reduceLeDiff, reduceCtorEq, Int.reduceToNat, Int.reduceLT, Int.reduceLE, Int.reduceAdd, Int.reduceSub, Int.reduceMul, Int.reduceNeg, Int.reduceEq, Nat.reduceMod, forall_eq_or_imp, forall_eq, forall_const, EVY, true_imp_iff, implies_true, Int.cast_ofNat_Int, forall_eq'])
  first | refine gCallK_ro _ (fun _ => h2) (fun _ => ?_) ?_ | refine geCallK_ro _ (fun _ => h2) (fun _ => ?_) ?_
  · simp only [↓EVP0, EVQ0, EVQ1, EVQ2, EVQ3, EVQ4, EVA, EVK, EVFR, ↓reduceIte, Nat.reduceEqDiff, Nat.reduceAdd, Nat.reduceSub, Nat.reduceMul, Nat.reduceLT, Nat.reduceLeDiff, reduceCtorEq, Int.reduceToNat, Int.reduceLT, Int.reduceLE, Int.reduceAdd, Int.reduceSub, Int.reduceMul, Int.reduceNeg, Int.reduceEq, Nat.reduceMod, forall_eq_or_imp, forall_eq, forall_const, EVY, true_imp_iff, implies_true, Int.cast_ofNat_Int, forall_eq']
  simp only [↓EVP0, EVQ0, EVQ1, EVQ2, EVQ3, EVQ4, EVA, EVK, EVFR, ↓reduceIte, Nat.reduceEqDiff, Nat.reduceAdd, Nat.reduceSub, Nat.reduceMul, Nat.reduceLT, Nat.reduceLeDiff, reduceCtorEq, Int.reduceToNat, Int.reduceLT, Int.reduceLE, Int.reduceAdd, Int.reduceSub, Int.reduceMul, Int.reduceNeg, Int.reduceEq, Nat.reduceMod, forall_eq_or_imp, forall_eq, forall_const, EVY, true_imp_iff, implies_true, Int.cast_ofNat_Int, forall_eq']
  (first | refine lopsQ_gcall ?_ | refine lopsQ_gecl ?_); (simp only [↓EVP0, EVQ0, EVQ1, EVQ2, EVQ3, EVQ4, EVA, EVK, EVFR, ↓reduceIte, Nat.reduceEqDiff, Nat.reduceAdd, Nat.reduceSub, Nat.reduceMul, Nat.reduceLT, Nat.reduceLeDiff, reduceCtorEq, Int.reduceToNat, Int.reduceLT, Int.reduceLE, Int.reduceAdd, Int.reduceSub, Int.reduceMul, Int.reduceNeg, Int.reduceEq, Nat.reduceMod, forall_eq_or_imp, forall_eq, forall_const, EVY, true_imp_iff, implies_true, Int.cast_ofNat_Int, forall_eq'])
  first | refine gCallK_ro _ (fun _ => h3 _ _) (fun _ => ?_) ?_ | refine geCallK_ro _ (fun _ => h3 _ _) (fun _ => ?_) ?_
  · simp only [↓EVP0, EVQ0, EVQ1, EVQ2, EVQ3, EVQ4, EVA, EVK, EVFR, ↓reduceIte, Nat.reduceEqDiff, Nat.reduceAdd, Nat.reduceSub, Nat.reduceMul, Nat.reduceLT, Nat.reduceLeDiff, reduceCtorEq, Int.reduceToNat, Int.reduceLT, Int.reduceLE, Int.reduceAdd, Int.reduceSub, Int.reduceMul, Int.reduceNeg, Int.reduceEq, Nat.reduceMod, forall_eq_or_imp, forall_eq, forall_const, EVY, true_imp_iff, implies_true, Int.cast_ofNat_Int, forall_eq']
  simp only [↓EVP0, EVQ0, EVQ1, EVQ2, EVQ3, EVQ4, EVA, EVK, EVFR, ↓reduceIte, Nat.reduceEqDiff, Nat.reduceAdd, Nat.reduceSub, Nat.reduceMul, Nat.reduceLT, Nat.reduceLeDiff, reduceCtorEq, Int.reduceToNat, Int.reduceLT, Int.reduceLE, Int.reduceAdd, Int.reduceSub, Int.reduceMul, Int.reduceNeg, Int.reduceEq, Nat.reduceMod, forall_eq_or_imp, forall_eq, forall_const, EVY, true_imp_iff, implies_true, Int.cast_ofNat_Int, forall_eq']
  simp only [condF] at g ⊢
  unfold vldR
  rw [g, Bool.false_or]
  have e : ∀ n : Nat, decide ((n : Int) = 1) = decide (n = 1) := fun n => by
    by_cases h : n = 1
    · subst h; rfl
    · have : ¬ (n : Int) = 1 := by omega
      simp [h, this]
  rw [e]
  cases decide (1 ≤ r.d) <;> cases decide (r.d ≤ 1152921504606846976) <;> cases decide (-1152921504606846976 ≤ r.n) <;> cases decide (r.n ≤ 1152921504606846976) <;> rfl
end Go.Proofs.YtdfiicpikcdokaaGreatDoor
namespace Go.Proofs.YtdfiicpikcdokaaGreatDoor
set_option linter.unusedSimpArgs false
set_option linter.unusedVariables false
open Go.RowKit
set_option maxRecDepth 20000

theorem split_mul (a b : Nat) : a * b = (a / 4294967296) * (b / 4294967296) * 18446744073709551616 + ((a / 4294967296) * (b % 4294967296) + (a % 4294967296) * (b / 4294967296)) * 4294967296 + (a % 4294967296) * (b % 4294967296) := by
  have h1 := Nat.div_add_mod a 4294967296
  have h2 := Nat.div_add_mod b 4294967296
  generalize a / 4294967296 = x1 at *
  generalize a % 4294967296 = x0 at *
  generalize b / 4294967296 = y1 at *
  generalize b % 4294967296 = y0 at *
  subst h1; subst h2
  rw [Nat.add_mul, Nat.mul_add, Nat.mul_add]
  have e1 : 4294967296 * x1 * (4294967296 * y1) = x1 * y1 * 18446744073709551616 := by
    rw [Nat.mul_mul_mul_comm, Nat.mul_comm]
  have e2 : 4294967296 * x1 * y0 = x1 * y0 * 4294967296 := by rw [Nat.mul_assoc, Nat.mul_comm]
  have e3 : x0 * (4294967296 * y1) = x0 * y1 * 4294967296 := by rw [← Nat.mul_assoc, Nat.mul_comm x0, Nat.mul_assoc, Nat.mul_comm]
  rw [e1, e2, e3]
  omega
theorem mul_le_32 {a b : Nat} (ha : a < 4294967296) (hb : b < 4294967296) : a * b ≤ 18446744065119617025 := Nat.le_trans (Nat.mul_le_mul (Nat.le_sub_one_of_lt ha) (Nat.le_sub_one_of_lt hb)) (by decide)
theorem ev_mul64 (a b : Nat) (ha : a < 18446744073709551616) (hb : b < 18446744073709551616) : Ev Tryz.prog 58 [U64 a, U64 b] (.tup [U64 (a * b / 18446744073709551616), U64 (a * b % 18446744073709551616)]) := by
  refine ev_fn Tryz.func58 comp58 (show 2 ≤ Tryz.f58.ntmps by decide) ?_; unfold cf58 rf58; simp only [↓EVP0, EVQ0, EVQ1, EVQ2, EVQ3, EVQ4, EVA, EVK, EVFR, ↓reduceIte, Nat.reduceEqDiff, Nat.reduceAdd, Nat.reduceSub, Nat.reduceMul, Nat.reduceLT, Nat.reduceLeDiff, reduceCtorEq, Int.reduceToNat, Int.reduceLT, Int.reduceLE, Int.reduceAdd, Int.reduceSub, Int.reduceMul, Int.reduceNeg, Int.reduceEq, Nat.reduceMod, forall_eq_or_imp, forall_eq, forall_const, EVY, true_imp_iff, implies_true, Int.cast_ofNat_Int, forall_eq']
  have h := split_mul a b
  have b11 := mul_le_32 (a := a / 4294967296) (b := b / 4294967296) (by omega) (by omega)
  have b10 := mul_le_32 (a := a / 4294967296) (b := b % 4294967296) (by omega) (by omega)
  have b01 := mul_le_32 (a := a % 4294967296) (b := b / 4294967296) (by omega) (by omega)
  have b00 := mul_le_32 (a := a % 4294967296) (b := b % 4294967296) (by omega) (by omega)
  rw [show (a : Int) / 4294967296 = ((a / 4294967296 : Nat) : Int) by omega, show (b : Int) / 4294967296 = ((b / 4294967296 : Nat) : Int) by omega, show (a : Int) % 4294967296 = ((a % 4294967296 : Nat) : Int) by omega, show (b : Int) % 4294967296 = ((b % 4294967296 : Nat) : Int) by omega]
  simp only [← Int.natCast_mul]
  generalize a / 4294967296 * (b / 4294967296) = p11 at *
  generalize a / 4294967296 * (b % 4294967296) = p10 at *
  generalize a % 4294967296 * (b / 4294967296) = p01 at *
  generalize a % 4294967296 * (b % 4294967296) = p00 at *
  generalize a * b = m at *
  omega
def wV (s : Bool) (m : Nat) : LV := .agg [.sc (.bool s), U64 (m / 18446744073709551616), U64 (m % 18446744073709551616)]
theorem ev_product (n : Int) (f : Nat) (hn : In64 n) (hf : f < 18446744073709551616) : Ev Tryz.prog 40 [.sc (.int .i64 n), U64 f] (wV (decide (n < 0)) (mag n * f)) := by
  have h1 := ev_size n hn
  have h2 := ev_mul64 (mag n) f (by have := mag_le hn; omega) hf
  unfold wV
  refine ev_fn Tryz.func40 comp40 (show 2 ≤ Tryz.f40.ntmps by decide) ?_; unfold cf40 rf40; simp only [↓EVP0, EVQ0, EVQ1, EVQ2, EVQ3, EVQ4, EVA, EVK, EVFR, ↓reduceIte, Nat.reduceEqDiff, Nat.reduceAdd, Nat.reduceSub, Nat.reduceMul, Nat.reduceLT, Nat.reduceLeDiff, reduceCtorEq, Int.reduceToNat, Int.reduceLT, Int.reduceLE, Int.reduceAdd, Int.reduceSub, Int.reduceMul, Int.reduceNeg, Int.reduceEq, Nat.reduceMod, forall_eq_or_imp, forall_eq, forall_const, EVY, true_imp_iff, implies_true, Int.cast_ofNat_Int, forall_eq']
  refine callK_ro (h1) ?_ ?_
  · simp only [↓EVP0, EVQ0, EVQ1, EVQ2, EVQ3, EVQ4, EVA, EVK, EVFR, ↓reduceIte, Nat.reduceEqDiff, Nat.reduceAdd, Nat.reduceSub, Nat.reduceMul, Nat.reduceLT, Nat.reduceLeDiff, reduceCtorEq, Int.reduceToNat, Int.reduceLT, Int.reduceLE, Int.reduceAdd, Int.reduceSub, Int.reduceMul, Int.reduceNeg, Int.reduceEq, Nat.reduceMod, forall_eq_or_imp, forall_eq, forall_const, EVY, true_imp_iff, implies_true, Int.cast_ofNat_Int, forall_eq']
  simp only [↓EVP0, EVQ0, EVQ1, EVQ2, EVQ3, EVQ4, EVA, EVK, EVFR, ↓reduceIte, Nat.reduceEqDiff, Nat.reduceAdd, Nat.reduceSub, Nat.reduceMul, Nat.reduceLT, Nat.reduceLeDiff, reduceCtorEq, Int.reduceToNat, Int.reduceLT, Int.reduceLE, Int.reduceAdd, Int.reduceSub, Int.reduceMul, Int.reduceNeg, Int.reduceEq, Nat.reduceMod, forall_eq_or_imp, forall_eq, forall_const, EVY, true_imp_iff, implies_true, Int.cast_ofNat_Int, forall_eq']
  refine callK_ro (h2) ?_ ?_
  · simp only [↓EVP0, EVQ0, EVQ1, EVQ2, EVQ3, EVQ4, EVA, EVK, EVFR, ↓reduceIte, Nat.reduceEqDiff, Nat.reduceAdd, Nat.reduceSub, Nat.reduceMul, Nat.reduceLT, Nat.reduceLeDiff, reduceCtorEq, Int.reduceToNat, Int.reduceLT, Int.reduceLE, Int.reduceAdd, Int.reduceSub, Int.reduceMul, Int.reduceNeg, Int.reduceEq, Nat.reduceMod, forall_eq_or_imp, forall_eq, forall_const, EVY, true_imp_iff, implies_true, Int.cast_ofNat_Int, forall_eq']
  simp only [↓EVP0, EVQ0, EVQ1, EVQ2, EVQ3, EVQ4, EVA, EVK, EVFR, ↓reduceIte, Nat.reduceEqDiff, Nat.reduceAdd, Nat.reduceSub, Nat.reduceMul, Nat.reduceLT, Nat.reduceLeDiff, reduceCtorEq, Int.reduceToNat, Int.reduceLT, Int.reduceLE, Int.reduceAdd, Int.reduceSub, Int.reduceMul, Int.reduceNeg, Int.reduceEq, Nat.reduceMod, forall_eq_or_imp, forall_eq, forall_const, EVY, true_imp_iff, implies_true, Int.cast_ofNat_Int, forall_eq']
def cmpN (m k : Nat) : Int := bif decide (m < k) then -1 else bif decide (m = k) then 0 else 1
theorem ev_wcmp (s t : Bool) (m k : Nat) : Ev Tryz.prog 41 [wV s m, wV t k] (.sc (.int .i64 (cmpN m k))) := by
  unfold wV
  refine ev_fn Tryz.func41 comp41 (show 2 ≤ Tryz.f41.ntmps by decide) ?_; unfold cf41 rf41; simp only [↓EVP0, EVQ0, EVQ1, EVQ2, EVQ3, EVQ4, EVA, EVK, EVFR, ↓reduceIte, Nat.reduceEqDiff, Nat.reduceAdd, Nat.reduceSub, Nat.reduceMul, Nat.reduceLT, Nat.reduceLeDiff, reduceCtorEq, Int.reduceToNat, Int.reduceLT, Int.reduceLE, Int.reduceAdd, Int.reduceSub, Int.reduceMul, Int.reduceNeg, Int.reduceEq, Nat.reduceMod, forall_eq_or_imp, forall_eq, forall_const, EVY, true_imp_iff, implies_true, Int.cast_ofNat_Int, forall_eq']
  unfold cmpN
  have e1 : ∀ a b : Nat, decide ((a : Int) < b) = decide (a < b) := fun a b => by simp
  have e2 : ∀ a b : Nat, decide ((a : Int) = b) = decide (a = b) := fun a b => by simp [Int.ofNat_inj]
  simp only [condT, condF, e1, e2]
  have d1 : (decide (m / 18446744073709551616 < k / 18446744073709551616) || decide (m / 18446744073709551616 = k / 18446744073709551616) && decide (m % 18446744073709551616 < k % 18446744073709551616)) = decide (m < k) := by
    rw [Bool.eq_iff_iff]; simp only [Bool.or_eq_true, Bool.and_eq_true, decide_eq_true_eq]; omega
  have d2 : (decide (m / 18446744073709551616 = k / 18446744073709551616) && decide (m % 18446744073709551616 = k % 18446744073709551616)) = decide (m = k) := by
    rw [Bool.eq_iff_iff]; simp only [Bool.or_eq_true, Bool.and_eq_true, decide_eq_true_eq]; omega
  rw [d1, d2]
  refine ⟨fun h => by rw [h]; rfl, fun h => ⟨fun h2 => by rw [h, h2]; rfl, fun h2 => by rw [h, h2]; rfl⟩⟩
theorem ev_fits (s : Bool) (m : Nat) : Ev Tryz.prog 86 [wV s m] (.sc (.bool (decide (m ≤ 1152921504606846976)))) := by
  unfold wV
  refine ev_fn Tryz.func86 comp86 (show 1 ≤ Tryz.f86.ntmps by decide) ?_; unfold cf86 rf86; simp only [↓EVP0, EVQ0, EVQ1, EVQ2, EVQ3, EVQ4, EVA, EVK, EVFR, ↓reduceIte, Nat.reduceEqDiff, Nat.reduceAdd, Nat.reduceSub, Nat.reduceMul, Nat.reduceLT, Nat.reduceLeDiff, reduceCtorEq, Int.reduceToNat, Int.reduceLT, Int.reduceLE, Int.reduceAdd, Int.reduceSub, Int.reduceMul, Int.reduceNeg, Int.reduceEq, Nat.reduceMod, forall_eq_or_imp, forall_eq, forall_const, EVY, true_imp_iff, implies_true, Int.cast_ofNat_Int, forall_eq']
  simp only [condF]
  rw [Bool.eq_iff_iff]; simp only [Bool.or_eq_true, Bool.and_eq_true, decide_eq_true_eq]; omega
theorem ev_signed (s : Bool) (m : Nat) (h : m ≤ 1152921504606846976) : Ev Tryz.prog 87 [wV s m] (.sc (.int .i64 (bif s then -(m : Int) else m))) := by
  unfold wV
  refine ev_fn Tryz.func87 comp87 (show 1 ≤ Tryz.f87.ntmps by decide) ?_; unfold cf87 rf87; simp only [↓EVP0, EVQ0, EVQ1, EVQ2, EVQ3, EVQ4, EVA, EVK, EVFR, ↓reduceIte, Nat.reduceEqDiff, Nat.reduceAdd, Nat.reduceSub, Nat.reduceMul, Nat.reduceLT, Nat.reduceLeDiff, reduceCtorEq, Int.reduceToNat, Int.reduceLT, Int.reduceLE, Int.reduceAdd, Int.reduceSub, Int.reduceMul, Int.reduceNeg, Int.reduceEq, Nat.reduceMod, forall_eq_or_imp, forall_eq, forall_const, EVY, true_imp_iff, implies_true, Int.cast_ofNat_Int, forall_eq']
  unfold In64
  refine ⟨fun g => ?_, fun g => ?_⟩ <;> subst g <;> simp only [cond_true, cond_false] <;> omega
theorem x_add64 (x y c : Nat) (hc : c ≤ 1) : XCall Tryz.prog 83 [U64 x, U64 y, U64 c] (.tup [U64 ((x + y + c) % 18446744073709551616), U64 ((x + y + c) / 18446744073709551616)]) := by
  intro R ι h w vs hs ha
  have h0 := (ha 0 _ rfl).sc_inv.1
  have h1 := (ha 1 _ rfl).sc_inv.1
  have h2 := (ha 2 _ rfl).sc_inv.1
  have hv : vs = #[.int .u64 x, .int .u64 y, .int .u64 c] := by
    apply Array.ext
    · simpa using hs
    · intro i hi hi2
      simp only [List.length_cons, List.length_nil] at hs
      rw [Array.getD_eq_getD_getElem?, Array.getElem?_eq_getElem (by omega)] at h0 h1 h2
      obtain rfl | rfl | rfl : i = 0 ∨ i = 1 ∨ i = 2 := by omega
      · exact h0
      · exact h1
      · exact h2
  rw [hv, run_callFunc_extern Tryz.func83 (by kernel_rfl) (by kernel_rfl) (by kernel_rfl) (e := add64Entry) (by kernel_rfl), run_add64 x y c (by omega) (by omega) (by omega) (by omega)]
  refine ⟨_, rfl, .tup _ _ rfl (fun i d hd => ?_)⟩
  rcases i with _ | _ | i
  · simp at hd; subst hd; exact rv_sc rfl
  · simp at hd; subst hd; exact rv_sc rfl
  · simp at hd
theorem x_sub64 (x y c : Nat) (hc : c ≤ 1) : XCall Tryz.prog 84 [U64 x, U64 y, U64 c] (.tup [U64 ((x + 18446744073709551616 - y - c) % 18446744073709551616), U64 (if x < y + c then 1 else 0)]) := by
  intro R ι h w vs hs ha
  have h0 := (ha 0 _ rfl).sc_inv.1
  have h1 := (ha 1 _ rfl).sc_inv.1
  have h2 := (ha 2 _ rfl).sc_inv.1
  have hv : vs = #[.int .u64 x, .int .u64 y, .int .u64 c] := by
    apply Array.ext
    · simpa using hs
    · intro i hi hi2
      simp only [List.length_cons, List.length_nil] at hs
      rw [Array.getD_eq_getD_getElem?, Array.getElem?_eq_getElem (by omega)] at h0 h1 h2
      obtain rfl | rfl | rfl : i = 0 ∨ i = 1 ∨ i = 2 := by omega
      · exact h0
      · exact h1
      · exact h2
  rw [hv, run_callFunc_extern Tryz.func84 (by kernel_rfl) (by kernel_rfl) (by kernel_rfl) (e := sub64Entry) (by kernel_rfl), run_sub64 x y c hc]
  refine ⟨_, rfl, .tup _ _ rfl (fun i d hd => ?_)⟩
  rcases i with _ | _ | i
  · simp at hd; subst hd; exact rv_sc rfl
  · simp at hd; subst hd; exact rv_sc rfl
  · simp at hd
theorem xCallK_of {P : Program} {f : FuncId} {al : List LV} {h : LH} {k : LV → LH → Prop} {r : LV} (he : XCall P f al r) (hk : k r h) : @xCallK P f al h ⟨k⟩ := ⟨r, he, hk⟩
def addW (s : Bool) (m : Nat) (t : Bool) (k : Nat) : Bool × Nat := bif decide (s = t) then (s, m + k) else bif decide (m < k) then (t, k - m) else (s, m - k)
theorem ev_wadd (s t : Bool) (m k : Nat) (h : m + k < 340282366920938463463374607431768211456) : Ev Tryz.prog 68 [wV s m, wV t k] (wV (addW s m t k).1 (addW s m t k).2) := by
  have h1 := ev_wcmp s t m k
  unfold wV at *
  refine ev_fn Tryz.func68 comp68 (show 2 ≤ Tryz.f68.ntmps by decide) ?_; unfold cf68 rf68; simp only [↓EVP0, EVQ0, EVQ1, EVQ2, EVQ3, EVQ4, EVA, EVK, EVFR, ↓reduceIte, Nat.reduceEqDiff, Nat.reduceAdd, Nat.reduceSub, Nat.reduceMul, Nat.reduceLT, Nat.reduceLeDiff, reduceCtorEq, Int.reduceToNat, Int.reduceLT, Int.reduceLE, Int.reduceAdd, Int.reduceSub, Int.reduceMul, Int.reduceNeg, Int.reduceEq, Nat.reduceMod, forall_eq_or_imp, forall_eq, forall_const, EVY, true_imp_iff, implies_true, Int.cast_ofNat_Int, forall_eq']
  refine ⟨fun hst => ?_, fun hst => ?_⟩
  · have e : addW s m t k = (s, m + k) := by
      unfold addW
      rw [show decide (s = t) = true by revert hst; cases s <;> cases t <;> simp]; rfl
    refine xCallK_of (x_add64 _ _ 0 (by omega)) ?_
    simp only [↓EVP0, EVQ0, EVQ1, EVQ2, EVQ3, EVQ4, EVA, EVK, EVFR, ↓reduceIte, Nat.reduceEqDiff, Nat.reduceAdd, Nat.reduceSub, Nat.reduceMul, Nat.reduceLT, Nat.reduceLeDiff, reduceCtorEq, Int.reduceToNat, Int.reduceLT, Int.reduceLE, Int.reduceAdd, Int.reduceSub, Int.reduceMul, Int.reduceNeg, Int.reduceEq, Nat.reduceMod, forall_eq_or_imp, forall_eq, forall_const, EVY, true_imp_iff, implies_true, Int.cast_ofNat_Int, forall_eq']
    refine xCallK_of (x_add64 _ _ _ (by omega)) ?_
    simp only [↓EVP0, EVQ0, EVQ1, EVQ2, EVQ3, EVQ4, EVA, EVK, EVFR, ↓reduceIte, Nat.reduceEqDiff, Nat.reduceAdd, Nat.reduceSub, Nat.reduceMul, Nat.reduceLT, Nat.reduceLeDiff, reduceCtorEq, Int.reduceToNat, Int.reduceLT, Int.reduceLE, Int.reduceAdd, Int.reduceSub, Int.reduceMul, Int.reduceNeg, Int.reduceEq, Nat.reduceMod, forall_eq_or_imp, forall_eq, forall_const, EVY, true_imp_iff, implies_true, Int.cast_ofNat_Int, forall_eq']
    rw [e]
    refine ⟨rfl, ?_, ?_⟩ <;> simp only <;> omega
  · have hne : decide (s = t) = false := by revert hst; cases s <;> cases t <;> simp
    refine callK_ro (h1) ?_ ?_
    · simp only [↓EVP0, EVQ0, EVQ1, EVQ2, EVQ3, EVQ4, EVA, EVK, EVFR, ↓reduceIte, Nat.reduceEqDiff, Nat.reduceAdd, Nat.reduceSub, Nat.reduceMul, Nat.reduceLT, Nat.reduceLeDiff, reduceCtorEq, Int.reduceToNat, Int.reduceLT, Int.reduceLE, Int.reduceAdd, Int.reduceSub, Int.reduceMul, Int.reduceNeg, Int.reduceEq, Nat.reduceMod, forall_eq_or_imp, forall_eq, forall_const, EVY, true_imp_iff, implies_true, Int.cast_ofNat_Int, forall_eq']
    simp only [↓EVP0, EVQ0, EVQ1, EVQ2, EVQ3, EVQ4, EVA, EVK, EVFR, ↓reduceIte, Nat.reduceEqDiff, Nat.reduceAdd, Nat.reduceSub, Nat.reduceMul, Nat.reduceLT, Nat.reduceLeDiff, reduceCtorEq, Int.reduceToNat, Int.reduceLT, Int.reduceLE, Int.reduceAdd, Int.reduceSub, Int.reduceMul, Int.reduceNeg, Int.reduceEq, Nat.reduceMod, forall_eq_or_imp, forall_eq, forall_const, EVY, true_imp_iff, implies_true, Int.cast_ofNat_Int, forall_eq']
    unfold cmpN
    refine ⟨fun g => ?_, fun g => ?_⟩
    · have hlt : m < k := by
        by_cases hlt : m < k
        · exact hlt
        · rw [decide_eq_false hlt, cond_false] at g
          cases h' : decide (m = k) <;> rw [h'] at g <;> simp at g
      have e : addW s m t k = (t, k - m) := by unfold addW; rw [hne, decide_eq_true hlt]; rfl
      refine xCallK_of (x_sub64 _ _ 0 (by omega)) ?_
      simp only [↓EVP0, EVQ0, EVQ1, EVQ2, EVQ3, EVQ4, EVA, EVK, EVFR, ↓reduceIte, Nat.reduceEqDiff, Nat.reduceAdd, Nat.reduceSub, Nat.reduceMul, Nat.reduceLT, Nat.reduceLeDiff, reduceCtorEq, Int.reduceToNat, Int.reduceLT, Int.reduceLE, Int.reduceAdd, Int.reduceSub, Int.reduceMul, Int.reduceNeg, Int.reduceEq, Nat.reduceMod, forall_eq_or_imp, forall_eq, forall_const, EVY, true_imp_iff, implies_true, Int.cast_ofNat_Int, forall_eq']
      refine xCallK_of (x_sub64 _ _ _ (by split <;> omega)) ?_
      simp only [↓EVP0, EVQ0, EVQ1, EVQ2, EVQ3, EVQ4, EVA, EVK, EVFR, ↓reduceIte, Nat.reduceEqDiff, Nat.reduceAdd, Nat.reduceSub, Nat.reduceMul, Nat.reduceLT, Nat.reduceLeDiff, reduceCtorEq, Int.reduceToNat, Int.reduceLT, Int.reduceLE, Int.reduceAdd, Int.reduceSub, Int.reduceMul, Int.reduceNeg, Int.reduceEq, Nat.reduceMod, forall_eq_or_imp, forall_eq, forall_const, EVY, true_imp_iff, implies_true, Int.cast_ofNat_Int, forall_eq']
      rw [e]
      refine ⟨rfl, ?_, ?_⟩ <;> simp only
      · split <;> omega
      · omega
    · have hlt : ¬ m < k := by
        intro hlt
        rw [decide_eq_true hlt] at g
        simp at g
      have e : addW s m t k = (s, m - k) := by unfold addW; rw [hne, decide_eq_false hlt]; rfl
      refine xCallK_of (x_sub64 _ _ 0 (by omega)) ?_
      simp only [↓EVP0, EVQ0, EVQ1, EVQ2, EVQ3, EVQ4, EVA, EVK, EVFR, ↓reduceIte, Nat.reduceEqDiff, Nat.reduceAdd, Nat.reduceSub, Nat.reduceMul, Nat.reduceLT, Nat.reduceLeDiff, reduceCtorEq, Int.reduceToNat, Int.reduceLT, Int.reduceLE, Int.reduceAdd, Int.reduceSub, Int.reduceMul, Int.reduceNeg, Int.reduceEq, Nat.reduceMod, forall_eq_or_imp, forall_eq, forall_const, EVY, true_imp_iff, implies_true, Int.cast_ofNat_Int, forall_eq']
      refine xCallK_of (x_sub64 _ _ _ (by split <;> omega)) ?_
      simp only [↓EVP0, EVQ0, EVQ1, EVQ2, EVQ3, EVQ4, EVA, EVK, EVFR, ↓reduceIte, Nat.reduceEqDiff, Nat.reduceAdd, Nat.reduceSub, Nat.reduceMul, Nat.reduceLT, Nat.reduceLeDiff, reduceCtorEq, Int.reduceToNat, Int.reduceLT, Int.reduceLE, Int.reduceAdd, Int.reduceSub, Int.reduceMul, Int.reduceNeg, Int.reduceEq, Nat.reduceMod, forall_eq_or_imp, forall_eq, forall_const, EVY, true_imp_iff, implies_true, Int.cast_ofNat_Int, forall_eq']
      rw [e]
      refine ⟨rfl, ?_, ?_⟩ <;> simp only
      · split <;> omega
      · omega
end Go.Proofs.YtdfiicpikcdokaaGreatDoor
namespace Go.Proofs.YtdfiicpikcdokaaGreatDoor
set_option linter.unusedSimpArgs false
set_option linter.unusedVariables false
open Go.RowKit
set_option maxRecDepth 20000

def isLen (x L : Nat) : Prop := (x = 0 ∧ L = 0) ∨ (1 ≤ L ∧ 2 ^ (L - 1) ≤ x ∧ x < 2 ^ L)
def len8 (x : Nat) : Nat := bif decide (x = 0) then 0 else bif decide (x < 2) then 1 else bif decide (x < 4) then 2 else bif decide (x < 8) then 3 else bif decide (x < 16) then 4 else bif decide (x < 32) then 5 else bif decide (x < 64) then 6 else bif decide (x < 128) then 7 else 8
theorem len8_ok (x : Nat) (h : x < 256) : isLen x (len8 x) := by
  unfold isLen len8
  by_cases h0 : x = 0
  · simp [h0]
  · right
    simp only [decide_eq_false h0, cond_false]
    by_cases h1 : x < 2
    · simp [h1]; omega
    · by_cases h2 : x < 4
      · simp [h1, h2]; omega
      · by_cases h3 : x < 8
        · simp [h1, h2, h3]; omega
        · by_cases h4 : x < 16
          · simp [h1, h2, h3, h4]; omega
          · by_cases h5 : x < 32
            · simp [h1, h2, h3, h4, h5]; omega
            · by_cases h6 : x < 64
              · simp [h1, h2, h3, h4, h5, h6]; omega
              · by_cases h7 : x < 128
                · simp [h1, h2, h3, h4, h5, h6, h7]; omega
                · simp [h1, h2, h3, h4, h5, h6, h7]; omega
theorem isLen_div {x L k : Nat} (h : isLen (x / 2 ^ k) L) (hx : 2 ^ k ≤ x) : isLen x (L + k) := by
  have hp : 0 < 2 ^ k := Nat.pow_pos (by decide)
  rcases h with ⟨h1, h2⟩ | ⟨h1, h2, h3⟩
  · have : 1 ≤ x / 2 ^ k := (Nat.le_div_iff_mul_le hp).2 (by omega)
    omega
  · refine .inr ⟨by omega, ?_, ?_⟩
    · have := (Nat.le_div_iff_mul_le hp).1 h2
      rw [← Nat.pow_add] at this
      rw [show L + k - 1 = L - 1 + k by omega]; exact this
    · have := (Nat.div_lt_iff_lt_mul hp).1 h3
      rw [← Nat.pow_add] at this; exact this
def lenA (x : Nat) : Nat := bif decide (256 ≤ x) then len8 (x / 256) + 8 else len8 x
def lenB (x : Nat) : Nat := bif decide (65536 ≤ x) then lenA (x / 65536) + 16 else lenA x
def lenC64 (x : Nat) : Nat := bif decide (4294967296 ≤ x) then lenB (x / 4294967296) + 32 else lenB x
theorem lenA_ok (x : Nat) (h : x < 65536) : isLen x (lenA x) := by
  unfold lenA
  by_cases h0 : 256 ≤ x
  · rw [decide_eq_true h0]; exact isLen_div (k := 8) (len8_ok _ (by omega)) h0
  · rw [decide_eq_false h0]; exact len8_ok _ (by omega)
theorem lenB_ok (x : Nat) (h : x < 4294967296) : isLen x (lenB x) := by
  unfold lenB
  by_cases h0 : 65536 ≤ x
  · rw [decide_eq_true h0]; exact isLen_div (k := 16) (lenA_ok _ (by omega)) h0
  · rw [decide_eq_false h0]; exact lenA_ok _ (by omega)
theorem lenC64_ok (x : Nat) (h : x < 18446744073709551616) : isLen x (lenC64 x) := by
  unfold lenC64
  by_cases h0 : 4294967296 ≤ x
  · rw [decide_eq_true h0]; exact isLen_div (k := 32) (lenB_ok _ (by omega)) h0
  · rw [decide_eq_false h0]; exact lenB_ok _ (by omega)
theorem tab8 : ∀ i, i < 256 → (sbyte ⟨#[0, 1, 2, 2, 3, 3, 3, 3, 4, 4, 4, 4, 4, 4, 4, 4, 5, 5, 5, 5, 5, 5, 5, 5, 5, 5, 5, 5, 5, 5, 5, 5, 6, 6, 6, 6, 6, 6, 6, 6, 6, 6, 6, 6, 6, 6, 6, 6, 6, 6, 6, 6, 6, 6, 6, 6, 6, 6, 6, 6, 6, 6, 6, 6, 7, 7, 7, 7, 7, 7, 7, 7, 7, 7, 7, 7, 7, 7, 7, 7, 7, 7, 7, 7, 7, 7, 7, 7, 7, 7, 7, 7, 7, 7, 7, 7, 7, 7, 7, 7, 7, 7, 7, 7, 7, 7, 7, 7, 7, 7, 7, 7, 7, 7, 7, 7, 7, 7, 7, 7, 7, 7, 7, 7, 7, 7, 7, 7, 8, 8, 8, 8, 8, 8, 8, 8, 8, 8, 8, 8, 8, 8, 8, 8, 8, 8, 8, 8, 8, 8, 8, 8, 8, 8, 8, 8, 8, 8, 8, 8, 8, 8, 8, 8, 8, 8, 8, 8, 8, 8, 8, 8, 8, 8, 8, 8, 8, 8, 8, 8, 8, 8, 8, 8, 8, 8, 8, 8, 8, 8, 8, 8, 8, 8, 8, 8, 8, 8, 8, 8, 8, 8, 8, 8, 8, 8, 8, 8, 8, 8, 8, 8, 8, 8, 8, 8, 8, 8, 8, 8, 8, 8, 8, 8, 8, 8, 8, 8, 8, 8, 8, 8, 8, 8, 8, 8, 8, 8, 8, 8, 8, 8, 8, 8, 8, 8, 8, 8, 8, 8, 8, 8, 8, 8, 8, 8]⟩ i).toNat = len8 i := by decide +kernel
theorem fdiv_16 (x : Int) : x.fdiv (2 ^ 16) = x / 65536 := Int.fdiv_eq_ediv_of_nonneg _ (by decide)
theorem fdiv_8 (x : Int) : x.fdiv (2 ^ 8) = x / 256 := Int.fdiv_eq_ediv_of_nonneg _ (by decide)
theorem len8_le (n : Nat) : len8 n ≤ 8 := by
  unfold len8
  cases decide (n = 0) <;> cases decide (n < 2) <;> cases decide (n < 4) <;> cases decide (n < 8) <;> cases decide (n < 16) <;> cases decide (n < 32) <;> cases decide (n < 64) <;> cases decide (n < 128) <;> simp
theorem leaf8 {tb : ByteArray} (ht : ∀ i, i < 256 → (sbyte tb i).toNat = len8 i) (hs : tb.size = 256) {e : Int} (n : Nat) (he : e = n) (hn : n < 256) {b : Int} (B : Nat) (hb : b = B) (hB : B ≤ 56) {L : Nat} (hL : L = len8 n + B) :
    (0 ≤ e % 256 ∧ (e % 256).toNat < tb.size) ∧ In64 ((sbyte tb (e % 256).toNat).toNat : Int) ∧ In64 (b + ((sbyte tb (e % 256).toNat).toNat : Int)) ∧ b + ((sbyte tb (e % 256).toNat).toNat : Int) = L := by
  subst he; subst hb
  have h1 : ((n : Int) % 256).toNat = n := by omega
  have h2 := len8_le n
  rw [h1, ht n hn, hs]
  unfold In64
  omega
theorem ev_len64 (x : Nat) (h : x < 18446744073709551616) : Ev Tryz.prog 89 [U64 x] (.sc (.int .i64 (lenC64 x))) := by
  have ht := tab8
  have hs : ByteArray.size (⟨#[0, 1, 2, 2, 3, 3, 3, 3, 4, 4, 4, 4, 4, 4, 4, 4, 5, 5, 5, 5, 5, 5, 5, 5, 5, 5, 5, 5, 5, 5, 5, 5, 6, 6, 6, 6, 6, 6, 6, 6, 6, 6, 6, 6, 6, 6, 6, 6, 6, 6, 6, 6, 6, 6, 6, 6, 6, 6, 6, 6, 6, 6, 6, 6, 7, 7, 7, 7, 7, 7, 7, 7, 7, 7, 7, 7, 7, 7, 7, 7, 7, 7, 7, 7, 7, 7, 7, 7, 7, 7, 7, 7, 7, 7, 7, 7, 7, 7, 7, 7, 7, 7, 7, 7, 7, 7, 7, 7, 7, 7, 7, 7, 7, 7, 7, 7, 7, 7, 7, 7, 7, 7, 7, 7, 7, 7, 7, 7, 8, 8, 8, 8, 8, 8, 8, 8, 8, 8, 8, 8, 8, 8, 8, 8, 8, 8, 8, 8, 8, 8, 8, 8, 8, 8, 8, 8, 8, 8, 8, 8, 8, 8, 8, 8, 8, 8, 8, 8, 8, 8, 8, 8, 8, 8, 8, 8, 8, 8, 8, 8, 8, 8, 8, 8, 8, 8, 8, 8, 8, 8, 8, 8, 8, 8, 8, 8, 8, 8, 8, 8, 8, 8, 8, 8, 8, 8, 8, 8, 8, 8, 8, 8, 8, 8, 8, 8, 8, 8, 8, 8, 8, 8, 8, 8, 8, 8, 8, 8, 8, 8, 8, 8, 8, 8, 8, 8, 8, 8, 8, 8, 8, 8, 8, 8, 8, 8, 8, 8, 8, 8, 8, 8, 8, 8, 8, 8]⟩ : ByteArray) = 256 := by decide +kernel
  refine ev_fn Tryz.func89 comp89 (show 1 ≤ Tryz.f89.ntmps by decide) ?_; unfold cf89 rf89; simp only [↓EVP0, EVQ0, EVQ1, EVQ2, EVQ3, EVQ4, EVA, EVK, EVFR, ↓reduceIte, Nat.reduceEqDiff, Nat.reduceAdd, Nat.reduceSub, Nat.reduceMul, Nat.reduceLT, Nat.reduceLeDiff, reduceCtorEq, Int.reduceToNat, Int.reduceLT, Int.reduceLE, Int.reduceAdd, Int.reduceSub, Int.reduceMul, Int.reduceNeg, Int.reduceEq, Nat.reduceMod, forall_eq_or_imp, forall_eq, forall_const, EVY, true_imp_iff, implies_true, Int.cast_ofNat_Int, forall_eq']
  generalize (⟨#[0, 1, 2, 2, 3, 3, 3, 3, 4, 4, 4, 4, 4, 4, 4, 4, 5, 5, 5, 5, 5, 5, 5, 5, 5, 5, 5, 5, 5, 5, 5, 5, 6, 6, 6, 6, 6, 6, 6, 6, 6, 6, 6, 6, 6, 6, 6, 6, 6, 6, 6, 6, 6, 6, 6, 6, 6, 6, 6, 6, 6, 6, 6, 6, 7, 7, 7, 7, 7, 7, 7, 7, 7, 7, 7, 7, 7, 7, 7, 7, 7, 7, 7, 7, 7, 7, 7, 7, 7, 7, 7, 7, 7, 7, 7, 7, 7, 7, 7, 7, 7, 7, 7, 7, 7, 7, 7, 7, 7, 7, 7, 7, 7, 7, 7, 7, 7, 7, 7, 7, 7, 7, 7, 7, 7, 7, 7, 7, 8, 8, 8, 8, 8, 8, 8, 8, 8, 8, 8, 8, 8, 8, 8, 8, 8, 8, 8, 8, 8, 8, 8, 8, 8, 8, 8, 8, 8, 8, 8, 8, 8, 8, 8, 8, 8, 8, 8, 8, 8, 8, 8, 8, 8, 8, 8, 8, 8, 8, 8, 8, 8, 8, 8, 8, 8, 8, 8, 8, 8, 8, 8, 8, 8, 8, 8, 8, 8, 8, 8, 8, 8, 8, 8, 8, 8, 8, 8, 8, 8, 8, 8, 8, 8, 8, 8, 8, 8, 8, 8, 8, 8, 8, 8, 8, 8, 8, 8, 8, 8, 8, 8, 8, 8, 8, 8, 8, 8, 8, 8, 8, 8, 8, 8, 8, 8, 8, 8, 8, 8, 8, 8, 8, 8, 8, 8, 8]⟩ : ByteArray) = tb at *
  simp only [fdiv_16, fdiv_8, show ∀ x : Int, IntKind.u8.wrap x = x % 256 from fun x => IntKind.wrap_u8 x]
  have i64 : ∀ n : Int, 0 ≤ n → n ≤ 56 → In64 n := fun n a b => by unfold In64; omega
  unfold lenC64 lenB lenA
  refine ⟨fun a => ⟨fun b => ⟨i64 _ (by decide) (by decide), fun c => ⟨i64 _ (by decide) (by decide), ?_⟩, fun c => ?_⟩, fun b => ⟨fun c => ⟨i64 _ (by decide) (by decide), ?_⟩, fun c => ?_⟩⟩, fun a => ⟨fun b => ⟨i64 _ (by decide) (by decide), fun c => ⟨i64 _ (by decide) (by decide), ?_⟩, fun c => ?_⟩, fun b => ⟨fun c => ⟨i64 _ (by decide) (by decide), ?_⟩, fun c => ?_⟩⟩⟩
  all_goals simp only [decide_eq_true_eq, decide_eq_false_iff_not] at a b c
  · have a' : 4294967296 ≤ x := by omega
    have b' : 65536 ≤ x / 4294967296 := by omega
    have c' : 256 ≤ x / 4294967296 / 65536 := by omega
    exact leaf8 ht hs (x / 4294967296 / 65536 / 256) (by omega) (by omega) 56 rfl (by decide) (by simp [a', b', c'])
  · have a' : 4294967296 ≤ x := by omega
    have b' : 65536 ≤ x / 4294967296 := by omega
    have c' : ¬ 256 ≤ x / 4294967296 / 65536 := by omega
    exact leaf8 ht hs (x / 4294967296 / 65536) (by omega) (by omega) 48 rfl (by decide) (by simp [a', b', c'])
  · have a' : 4294967296 ≤ x := by omega
    have b' : ¬ 65536 ≤ x / 4294967296 := by omega
    have c' : 256 ≤ x / 4294967296 := by omega
    exact leaf8 ht hs (x / 4294967296 / 256) (by omega) (by omega) 40 rfl (by decide) (by simp [a', b', c'])
  · have a' : 4294967296 ≤ x := by omega
    have b' : ¬ 65536 ≤ x / 4294967296 := by omega
    have c' : ¬ 256 ≤ x / 4294967296 := by omega
    exact leaf8 ht hs (x / 4294967296) (by omega) (by omega) 32 rfl (by decide) (by simp [a', b', c'])
  · have a' : ¬ 4294967296 ≤ x := by omega
    have b' : 65536 ≤ x := by omega
    have c' : 256 ≤ x / 65536 := by omega
    exact leaf8 ht hs (x / 65536 / 256) (by omega) (by omega) 24 rfl (by decide) (by simp [a', b', c'])
  · have a' : ¬ 4294967296 ≤ x := by omega
    have b' : 65536 ≤ x := by omega
    have c' : ¬ 256 ≤ x / 65536 := by omega
    exact leaf8 ht hs (x / 65536) (by omega) (by omega) 16 rfl (by decide) (by simp [a', b', c'])
  · have a' : ¬ 4294967296 ≤ x := by omega
    have b' : ¬ 65536 ≤ x := by omega
    have c' : 256 ≤ x := by omega
    exact leaf8 ht hs (x / 256) (by omega) (by omega) 8 rfl (by decide) (by simp [a', b', c'])
  · have a' : ¬ 4294967296 ≤ x := by omega
    have b' : ¬ 65536 ≤ x := by omega
    have c' : ¬ 256 ≤ x := by omega
    exact leaf8 ht hs x (by omega) (by omega) 0 rfl (by decide) (by simp [a', b', c'])
theorem ev_lz64 (x : Nat) (h : x < 18446744073709551616) : Ev Tryz.prog 102 [U64 x] (.sc (.int .i64 (64 - (lenC64 x : Int)))) := by
  have h1 := ev_len64 x h
  have hl := lenC64_ok x h
  have hle : lenC64 x ≤ 64 := by
    rcases hl with ⟨_, h2⟩ | ⟨h2, h3, _⟩
    · omega
    · rcases Nat.lt_or_ge 64 (lenC64 x) with hlt | hge
      · have : 2 ^ 64 ≤ 2 ^ (lenC64 x - 1) := Nat.pow_le_pow_right (by decide) (by omega)
        have e : (2 : Nat) ^ 64 = 18446744073709551616 := by decide
        omega
      · exact hge
  refine ev_fn Tryz.func102 comp102 (show 1 ≤ Tryz.f102.ntmps by decide) ?_; unfold cf102 rf102; simp only [↓EVP0, EVQ0, EVQ1, EVQ2, EVQ3, EVQ4, EVA, EVK, EVFR, ↓reduceIte, Nat.reduceEqDiff, Nat.reduceAdd, Nat.reduceSub, Nat.reduceMul, Nat.reduceLT, Nat.reduceLeDiff, reduceCtorEq, Int.reduceToNat, Int.reduceLT, Int.reduceLE, Int.reduceAdd, Int.reduceSub, Int.reduceMul, Int.reduceNeg, Int.reduceEq, Nat.reduceMod, forall_eq_or_imp, forall_eq, forall_const, EVY, true_imp_iff, implies_true, Int.cast_ofNat_Int, forall_eq']
  refine callK_ro (h1) ?_ ?_
  · simp only [↓EVP0, EVQ0, EVQ1, EVQ2, EVQ3, EVQ4, EVA, EVK, EVFR, ↓reduceIte, Nat.reduceEqDiff, Nat.reduceAdd, Nat.reduceSub, Nat.reduceMul, Nat.reduceLT, Nat.reduceLeDiff, reduceCtorEq, Int.reduceToNat, Int.reduceLT, Int.reduceLE, Int.reduceAdd, Int.reduceSub, Int.reduceMul, Int.reduceNeg, Int.reduceEq, Nat.reduceMod, forall_eq_or_imp, forall_eq, forall_const, EVY, true_imp_iff, implies_true, Int.cast_ofNat_Int, forall_eq']
  simp only [↓EVP0, EVQ0, EVQ1, EVQ2, EVQ3, EVQ4, EVA, EVK, EVFR, ↓reduceIte, Nat.reduceEqDiff, Nat.reduceAdd, Nat.reduceSub, Nat.reduceMul, Nat.reduceLT, Nat.reduceLeDiff, reduceCtorEq, Int.reduceToNat, Int.reduceLT, Int.reduceLE, Int.reduceAdd, Int.reduceSub, Int.reduceMul, Int.reduceNeg, Int.reduceEq, Nat.reduceMod, forall_eq_or_imp, forall_eq, forall_const, EVY, true_imp_iff, implies_true, Int.cast_ofNat_Int, forall_eq']
  unfold In64; omega
end Go.Proofs.YtdfiicpikcdokaaGreatDoor
namespace Go.Proofs.YtdfiicpikcdokaaGreatDoor
set_option linter.unusedSimpArgs false
set_option linter.unusedVariables false
open Go.RowKit
set_option maxRecDepth 20000

structure KInv (y u a q r : Nat) : Prop where
  eq : q * (y / 4294967296) + r = u
  ge : (u * 4294967296 + a) / y ≤ q
  le : q ≤ 4294967297
  rb : r < 8589934592
  hi : 4294967296 ≤ r → q ≤ 4294967296
theorem k_start {y u a : Nat} (hy : 9223372036854775808 ≤ y) (hy2 : y < 18446744073709551616) (hu : u < y) (ha : a < 4294967296) : KInv y u a (u / (y / 4294967296)) (u - u / (y / 4294967296) * (y / 4294967296)) := by
  have hy1 : 2147483648 ≤ y / 4294967296 := by omega
  have hy1' : y / 4294967296 < 4294967296 := by omega
  have hdm := Nat.div_add_mod u (y / 4294967296)
  have hm := Nat.mod_lt u (show 0 < y / 4294967296 by omega)
  rw [Nat.mul_comm] at hdm
  have hsub : u - u / (y / 4294967296) * (y / 4294967296) = u % (y / 4294967296) := by omega
  rw [hsub]
  refine ⟨hdm, ?_, ?_, by omega, fun h => by omega⟩
  · -- the true digit is at most the estimate
    have hyd := Nat.div_add_mod y 4294967296
    refine Nat.le_of_lt_succ ((Nat.div_lt_iff_lt_mul (by omega)).2 ?_)
    have h1 : u + 1 ≤ (u / (y / 4294967296) + 1) * (y / 4294967296) := by
      rw [Nat.add_mul, Nat.one_mul]; omega
    have h2 : (u + 1) * 4294967296 ≤ (u / (y / 4294967296) + 1) * (y / 4294967296) * 4294967296 := Nat.mul_le_mul_right _ h1
    have h3 : (u / (y / 4294967296) + 1) * (y / 4294967296) * 4294967296 ≤ (u / (y / 4294967296) + 1) * y := by
      rw [Nat.mul_assoc]
      exact Nat.mul_le_mul_left _ (Nat.div_mul_le_self _ _)
    have h4 : y * (u / (y / 4294967296) + 1) = (u / (y / 4294967296) + 1) * y := Nat.mul_comm _ _
    show u * 4294967296 + a < (u / (y / 4294967296) + 1) * y
    omega
  · have : u / (y / 4294967296) < 4294967298 := by
      rw [Nat.div_lt_iff_lt_mul (by omega)]
      omega
    omega
theorem k_step {y u a q r : Nat} (hy : 9223372036854775808 ≤ y) (hy2 : y < 18446744073709551616) (hu : u < y) (ha : a < 4294967296) (h : KInv y u a q r) (hr : r < 4294967296) (hc : 4294967296 ≤ q ∨ 4294967296 * r + a < q * (y % 4294967296)) :
    KInv y u a (q - 1) (r + y / 4294967296) ∧ 1 ≤ q := by
  have hq1 : 1 ≤ q := by
    rcases hc with h1 | h1
    · omega
    · rcases Nat.eq_zero_or_pos q with rfl | hp
      · rw [Nat.zero_mul] at h1; omega
      · exact hp
  obtain ⟨k, rfl⟩ : ∃ k, q = k + 1 := ⟨q - 1, by omega⟩
  have he := h.eq
  rw [Nat.add_mul, Nat.one_mul] at he
  refine ⟨⟨by simp only [Nat.add_sub_cancel]; omega, ?_, by have := h.le; omega, by omega, fun _ => by have := h.le; omega⟩, hq1⟩
  simp only [Nat.add_sub_cancel]
  -- the true digit is below q
  have hlt : (u * 4294967296 + a) / y < k + 1 := by
    rw [Nat.div_lt_iff_lt_mul (by omega)]
    rcases hc with h1 | h1
    · have h2 : 4294967296 * y ≤ (k + 1) * y := Nat.mul_le_mul_right _ h1
      have h3 : (u + 1) * 4294967296 ≤ y * 4294967296 := Nat.mul_le_mul_right _ hu
      generalize (k + 1) * y = z at *
      omega
    · have hyd := Nat.div_add_mod y 4294967296
      have h2 : (k + 1) * y = (k + 1) * (y / 4294967296) * 4294967296 + (k + 1) * (y % 4294967296) := by
        have : (k + 1) * y = (k + 1) * (4294967296 * (y / 4294967296) + y % 4294967296) := by rw [hyd]
        rw [this, Nat.mul_add, Nat.mul_left_comm, ← Nat.mul_assoc, Nat.mul_comm 4294967296, Nat.mul_assoc, Nat.mul_comm 4294967296, ← Nat.mul_assoc]
      have h3 : (k + 1) * (y / 4294967296) = k * (y / 4294967296) + y / 4294967296 := by rw [Nat.add_mul, Nat.one_mul]
      generalize (k + 1) * y = z at *
      generalize (k + 1) * (y % 4294967296) = p at *
      generalize (k + 1) * (y / 4294967296) = p2 at *
      generalize k * (y / 4294967296) = p3 at *
      omega
  omega
theorem k_end {y u a q r : Nat} (hy : 9223372036854775808 ≤ y) (hy2 : y < 18446744073709551616) (hu : u < y) (ha : a < 4294967296) (h : KInv y u a q r) (hc : 4294967296 ≤ r ∨ (q < 4294967296 ∧ q * (y % 4294967296) ≤ 4294967296 * r + a)) :
    q = (u * 4294967296 + a) / y := by
  apply Nat.le_antisymm _ h.ge
  rw [Nat.le_div_iff_mul_le (by omega)]
  have hyd := Nat.div_add_mod y 4294967296
  have h2 : q * y = q * (y / 4294967296) * 4294967296 + q * (y % 4294967296) := by
    have : q * y = q * (4294967296 * (y / 4294967296) + y % 4294967296) := by rw [hyd]
    rw [this, Nat.mul_add, Nat.mul_left_comm, ← Nat.mul_assoc, Nat.mul_comm 4294967296, Nat.mul_assoc, Nat.mul_comm 4294967296, ← Nat.mul_assoc]
  have he := h.eq
  rcases hc with h1 | ⟨h1, h3⟩
  · have hq := h.hi h1
    have h4 : q * (y % 4294967296) ≤ 4294967296 * 4294967295 := Nat.mul_le_mul hq (by omega)
    generalize q * (y % 4294967296) = p at *
    generalize q * (y / 4294967296) = p2 at *
    generalize q * y = z at *
    omega
  · generalize q * (y % 4294967296) = p at *
    generalize q * (y / 4294967296) = p2 at *
    generalize q * y = z at *
    omega
theorem k_digit {y u a : Nat} (hu : u < y) (ha : a < 4294967296) : (u * 4294967296 + a) / y < 4294967296 := by
  rw [Nat.div_lt_iff_lt_mul (by omega)]
  have h3 : (u + 1) * 4294967296 ≤ y * 4294967296 := Nat.mul_le_mul_right _ hu
  omega
end Go.Proofs.YtdfiicpikcdokaaGreatDoor
namespace Go.Proofs.YtdfiicpikcdokaaGreatDoor
set_option linter.unusedSimpArgs false
set_option linter.unusedVariables false
open Go.RowKit
set_option maxRecDepth 20000

theorem lz_facts {y : Nat} (h0 : 0 < y) (h : y < 18446744073709551616) : ∃ s : Nat, s ≤ 63 ∧ (64 - (lenC64 y : Int)) = (s : Int) ∧ 9223372036854775808 ≤ y * 2 ^ s ∧ y * 2 ^ s < 18446744073709551616 := by
  rcases lenC64_ok y h with ⟨h1, _⟩ | ⟨h1, h2, h3⟩
  · omega
  · have hle : lenC64 y ≤ 64 := by
      rcases Nat.lt_or_ge 64 (lenC64 y) with hlt | hge
      · have : 2 ^ 64 ≤ 2 ^ (lenC64 y - 1) := Nat.pow_le_pow_right (by decide) (by omega)
        have e : (2 : Nat) ^ 64 = 18446744073709551616 := by decide
        omega
      · exact hge
    refine ⟨64 - lenC64 y, by omega, by omega, ?_, ?_⟩
    · have := Nat.mul_le_mul_right (2 ^ (64 - lenC64 y)) h2
      rw [← Nat.pow_add, show lenC64 y - 1 + (64 - lenC64 y) = 63 by omega] at this
      exact Nat.le_trans (by decide) this
    · have := (Nat.mul_lt_mul_right (a := 2 ^ (64 - lenC64 y)) (Nat.pow_pos (by decide))).2 h3
      rw [← Nat.pow_add, show lenC64 y + (64 - lenC64 y) = 64 by omega] at this
      exact Nat.lt_of_lt_of_le this (by decide)
theorem shl_nat (a s : Nat) : ((a : Int) * 2 ^ s) % 18446744073709551616 = ((a * 2 ^ s % 18446744073709551616 : Nat) : Int) := by
  rw [Int.natCast_emod, Int.natCast_mul, Int.natCast_pow]; rfl
theorem shr_nat (a s : Nat) : ((a : Int)).fdiv (2 ^ s) = ((a / 2 ^ s : Nat) : Int) := by
  rw [Int.fdiv_eq_ediv_of_nonneg _ (by exact Int.pow_nonneg (by decide)), Int.natCast_ediv, Int.natCast_pow]; rfl
theorem or_add (a b s : Nat) (ha : a * 2 ^ s < 18446744073709551616) (hb : b < 2 ^ s) (hb2 : b < 18446744073709551616) : orbI .u64 ((a * 2 ^ s : Nat) : Int) ((b : Nat) : Int) = ((a * 2 ^ s + b : Nat) : Int) := by
  unfold orbI
  rw [wrap_u64]
  have hn : ∀ n : Nat, n < 18446744073709551616 → (BitVec.ofInt IntKind.u64.bits ((n : Nat) : Int)).toNat = n := by
    intro n hn
    have : (BitVec.ofInt 64 ((n : Nat) : Int)).toNat = n := by
      rw [BitVec.toNat_ofInt]
      have : ((n : Int) % ((2 ^ 64 : Nat) : Int)).toNat = n := by omega
      exact this
    exact this
  rw [BitVec.toNat_or, hn _ ha, hn _ hb2, Nat.mul_comm a, ← Nat.two_pow_add_eq_or_of_lt hb]
  have hlt : 2 ^ s * a + b < 18446744073709551616 := by
    rw [Nat.mul_comm] at ha
    have h1 : 2 ^ s * a + b < 2 ^ s * (a + 1) := by rw [Nat.mul_succ]; omega
    rcases Nat.lt_or_ge s 64 with hs | hs
    · have hd : 2 ^ s * 2 ^ (64 - s) = 18446744073709551616 := by rw [← Nat.pow_add, show s + (64 - s) = 64 by omega]
      have : a < 2 ^ (64 - s) := by
        rw [← hd] at ha
        exact Nat.lt_of_mul_lt_mul_left ha
      have h2 : 2 ^ s * (a + 1) ≤ 2 ^ s * 2 ^ (64 - s) := Nat.mul_le_mul_left _ this
      omega
    · rcases Nat.eq_zero_or_pos a with rfl | hp
      · omega
      · have h2 : 2 ^ 64 ≤ 2 ^ s := Nat.pow_le_pow_right (by decide) hs
        have h3 : 2 ^ s * 1 ≤ 2 ^ s * a := Nat.mul_le_mul_left _ hp
        have e : (2 : Nat) ^ 64 = 18446744073709551616 := by decide
        omega
  omega
theorem k_first {Y u a : Nat} (hy : 9223372036854775808 ≤ Y) (hy2 : Y < 18446744073709551616) (hu : u < Y) (ks : KInv Y u a (u / (Y / 4294967296)) (u - u / (Y / 4294967296) * (Y / 4294967296))) :
    ((u : Int)).tdiv ((Y / 4294967296 : Nat) : Int) % 18446744073709551616 = ((u / (Y / 4294967296) : Nat) : Int) ∧
    ((u : Int) - ((u / (Y / 4294967296) : Nat) : Int) * ((Y / 4294967296 : Nat) : Int) % 18446744073709551616) % 18446744073709551616 = ((u - u / (Y / 4294967296) * (Y / 4294967296) : Nat) : Int) := by
  have h1 := ks.le
  have h2 := Nat.div_mul_le_self u (Y / 4294967296)
  rw [← Int.ofNat_tdiv, ← Int.natCast_mul]
  generalize u / (Y / 4294967296) * (Y / 4294967296) = p at *
  generalize u / (Y / 4294967296) = q at *
  omega
theorem k_cond {Y u a q r : Nat} (hk : KInv Y u a q r) (hr : r < 4294967296) (ha : a < 4294967296) :
    (bif decide ((4294967296 : Int) ≤ q) then true else decide ((4294967296 * (r : Int) % 18446744073709551616 + (a : Int)) % 18446744073709551616 < (q : Int) * ((Y % 4294967296 : Nat) : Int) % 18446744073709551616)) = (decide (4294967296 ≤ q) || decide (4294967296 * r + a < q * (Y % 4294967296))) := by
  have h1 := hk.le
  have h2 : q * (Y % 4294967296) ≤ 4294967297 * 4294967295 := Nat.mul_le_mul h1 (by omega)
  rw [condT, ← Int.natCast_mul]
  generalize q * (Y % 4294967296) = p at *
  rw [Bool.eq_iff_iff]
  simp only [Bool.or_eq_true, decide_eq_true_eq]
  omega
theorem ev_div64 (hi lo y : Nat) (h1 : hi < y) (h2 : y < 18446744073709551616) (h3 : lo < 18446744073709551616) :
    Ev Tryz.prog 85 [U64 hi, U64 lo, U64 y] (.tup [U64 ((hi * 18446744073709551616 + lo) / y), U64 ((hi * 18446744073709551616 + lo) % y)]) := by
  obtain ⟨s, s1, s2, s3, s4⟩ := lz_facts (y := y) (by omega) h2
  have hl := ev_lz64 y h2
  rw [s2] at hl
  refine ev_fn Tryz.func85 comp85 (show 3 ≤ Tryz.f85.ntmps by decide) ?_; unfold cf85 rf85; simp only [↓EVP0, EVQ0, EVQ1, EVQ2, EVQ3, EVQ4, EVA, EVK, EVFR, ↓reduceIte, Nat.reduceEqDiff, Nat.reduceAdd, Nat.reduceSub, Nat.reduceMul, Nat.reduceLT, Nat.reduceLeDiff, reduceCtorEq, Int.reduceToNat, Int.reduceLT, Int.reduceLE, Int.reduceAdd, Int.reduceSub, Int.reduceMul, Int.reduceNeg, Int.reduceEq, Nat.reduceMod, forall_eq_or_imp, forall_eq, forall_const, EVY, true_imp_iff, implies_true, Int.cast_ofNat_Int, forall_eq']
  refine ⟨fun g => by simp at g; omega, fun _ => ⟨fun g => by simp at g; omega, fun _ => ⟨fun g => ?_, fun g => ?_⟩⟩⟩
  · have h0 : hi = 0 := by simp at g; exact g
    subst h0
    refine ⟨by omega, by omega, ?_, ?_⟩
    · have e : ((lo : Int)).tdiv y = ((lo / y : Nat) : Int) := (Int.ofNat_tdiv lo y).symm
      have : lo / y ≤ lo := Nat.div_le_self _ _
      rw [Nat.zero_mul, Nat.zero_add, e]
      generalize lo / y = z at *
      omega
    · rw [Nat.zero_mul, Nat.zero_add]; exact (Int.ofNat_tmod _ _).symm
  · refine callK_ro (hl) ?_ ?_
    · simp only [↓EVP0, EVQ0, EVQ1, EVQ2, EVQ3, EVQ4, EVA, EVK, EVFR, ↓reduceIte, Nat.reduceEqDiff, Nat.reduceAdd, Nat.reduceSub, Nat.reduceMul, Nat.reduceLT, Nat.reduceLeDiff, reduceCtorEq, Int.reduceToNat, Int.reduceLT, Int.reduceLE, Int.reduceAdd, Int.reduceSub, Int.reduceMul, Int.reduceNeg, Int.reduceEq, Nat.reduceMod, forall_eq_or_imp, forall_eq, forall_const, EVY, true_imp_iff, implies_true, Int.cast_ofNat_Int, forall_eq']
    simp only [↓EVP0, EVQ0, EVQ1, EVQ2, EVQ3, EVQ4, EVA, EVK, EVFR, ↓reduceIte, Nat.reduceEqDiff, Nat.reduceAdd, Nat.reduceSub, Nat.reduceMul, Nat.reduceLT, Nat.reduceLeDiff, reduceCtorEq, Int.reduceToNat, Int.reduceLT, Int.reduceLE, Int.reduceAdd, Int.reduceSub, Int.reduceMul, Int.reduceNeg, Int.reduceEq, Nat.reduceMod, forall_eq_or_imp, forall_eq, forall_const, EVY, true_imp_iff, implies_true, Int.cast_ofNat_Int, forall_eq']
    have e1 : (s : Int) % 18446744073709551616 = s := by omega
    have e2 : (64 - (s : Int)) % 18446744073709551616 = ((64 - s : Nat) : Int) := by omega
    simp only [e1, e2, Int.toNat_natCast, shl_nat, shr_nat]
    have hp : 0 < 2 ^ s := Nat.pow_pos (by decide)
    have hd : 2 ^ (64 - s) * 2 ^ s = 18446744073709551616 := by rw [← Nat.pow_add, show 64 - s + s = 64 by omega]
    have hhi : hi * 2 ^ s < y * 2 ^ s := (Nat.mul_lt_mul_right hp).2 h1
    have hlo : lo / 2 ^ (64 - s) < 2 ^ s := by
      rw [Nat.div_lt_iff_lt_mul (Nat.pow_pos (by decide)), Nat.mul_comm, hd]; exact h3
    have hlo2 : lo / 2 ^ (64 - s) ≤ lo := Nat.div_le_self _ _
    have m1 : y * 2 ^ s % 18446744073709551616 = y * 2 ^ s := Nat.mod_eq_of_lt s4
    have m2 : hi * 2 ^ s % 18446744073709551616 = hi * 2 ^ s := Nat.mod_eq_of_lt (by omega)
    have hor := or_add hi (lo / 2 ^ (64 - s)) s (by omega) hlo (by omega)
    -- the number, shifted
    have hU : (hi * 18446744073709551616 + lo) * 2 ^ s = (hi * 2 ^ s + lo / 2 ^ (64 - s)) * 18446744073709551616 + lo * 2 ^ s % 18446744073709551616 := by
      have h5 : lo * 2 ^ s % 18446744073709551616 = (lo % 2 ^ (64 - s)) * 2 ^ s := by
        rw [← hd, Nat.mul_mod_mul_right]
      have h6 := Nat.div_add_mod lo (2 ^ (64 - s))
      have h7 : lo * 2 ^ s = lo / 2 ^ (64 - s) * 18446744073709551616 + lo % 2 ^ (64 - s) * 2 ^ s := by
        rw [← hd, ← Nat.mul_assoc, ← Nat.add_mul, Nat.mul_comm (lo / _), h6]
      rw [h5, Nat.add_mul, h7, Nat.add_mul]
      have h8 : hi * 18446744073709551616 * 2 ^ s = hi * 2 ^ s * 18446744073709551616 := Nat.mul_right_comm _ _ _
      omega
    have hu : hi * 2 ^ s + lo / 2 ^ (64 - s) < y * 2 ^ s := by
      have : (hi + 1) * 2 ^ s ≤ y * 2 ^ s := Nat.mul_le_mul_right _ h1
      rw [Nat.add_mul, Nat.one_mul] at this
      omega
    have hw : lo * 2 ^ s % 18446744073709551616 < 18446744073709551616 := Nat.mod_lt _ (by decide)
    rw [m1]
    refine ⟨⟨by omega, by omega⟩, ⟨by omega, by omega⟩, ⟨by omega, by omega⟩, ⟨by omega, by omega⟩, by omega, ?_⟩
    have hQ : (hi * 18446744073709551616 + lo) / y = (hi * 18446744073709551616 + lo) * 2 ^ s / (y * 2 ^ s) := (Nat.mul_div_mul_right _ _ hp).symm
    have hR : (hi * 18446744073709551616 + lo) % y = (hi * 18446744073709551616 + lo) * 2 ^ s % (y * 2 ^ s) / 2 ^ s := by rw [Nat.mul_mod_mul_right, Nat.mul_div_cancel _ hp]
    rw [hU] at hQ hR
    generalize hY : y * 2 ^ s = Y at *
    generalize hUn : hi * 2 ^ s + lo / 2 ^ (64 - s) = u at *
    generalize hW : lo * 2 ^ s % 18446744073709551616 = v at *
    have ks := k_start (y := Y) (u := u) (a := v / 4294967296) s3 s4 hu (by omega)
    have hdig := k_digit (a := v / 4294967296) hu (by omega)
    obtain ⟨q1, hq1⟩ : ∃ q1, (u * 4294967296 + v / 4294967296) / Y = q1 := ⟨_, rfl⟩
    obtain ⟨u2, hu2⟩ : ∃ u2, (u * 4294967296 + v / 4294967296) % Y = u2 := ⟨_, rfl⟩
    have hx : Y * q1 + u2 = u * 4294967296 + v / 4294967296 := by rw [← hq1, ← hu2]; exact Nat.div_add_mod _ _
    have hx2 : u2 < Y := by rw [← hu2]; exact Nat.mod_lt _ (by omega)
    rw [hq1] at hdig
    refine lwp_join (α := Unit) (fun _ => True) (fun _ => [(2, .sc (.int .u64 (Y : Int))), (8, .sc (.int .u64 (s : Int))), (9, .sc (.int .u64 ((Y / 4294967296 : Nat) : Int))), (10, .sc (.int .u64 ((Y % 4294967296 : Nat) : Int))), (11, .sc (.int .u64 (u : Int))),
      (13, .sc (.int .u64 ((v / 4294967296 : Nat) : Int))), (14, .sc (.int .u64 ((v % 4294967296 : Nat) : Int))), (15, .sc (.int .u64 (q1 : Int)))]) (fun _ => []) (fun _ => Nat.zero_le _) ?_ ?_
    · simp only [↓EVP0, EVQ0, EVQ1, EVQ2, EVQ3, EVQ4, EVA, EVK, EVFR, ↓reduceIte, Nat.reduceEqDiff, Nat.reduceAdd, Nat.reduceSub, Nat.reduceMul, Nat.reduceLT, Nat.reduceLeDiff, reduceCtorEq, Int.reduceToNat, Int.reduceLT, Int.reduceLE, Int.reduceAdd, Int.reduceSub, Int.reduceMul, Int.reduceNeg, Int.reduceEq, Nat.reduceMod, forall_eq_or_imp, forall_eq, forall_const, EVY, true_imp_iff, implies_true, Int.cast_ofNat_Int, forall_eq']
      have hr0 : u - u / (Y / 4294967296) * (Y / 4294967296) < 4294967296 := by
        have := ks.eq
        have h5 := Nat.div_add_mod u (Y / 4294967296)
        have h6 := Nat.mod_lt u (show 0 < Y / 4294967296 by omega)
        rw [Nat.mul_comm] at h5
        omega
      refine lwp_loop (α := Nat × Nat) (fun q => KInv Y u (v / 4294967296) q.1 q.2 ∧ q.2 < 4294967296) (fun q => [(2, .sc (.int .u64 (Y : Int))), (8, .sc (.int .u64 (s : Int))), (9, .sc (.int .u64 ((Y / 4294967296 : Nat) : Int))), (10, .sc (.int .u64 ((Y % 4294967296 : Nat) : Int))), (11, .sc (.int .u64 (u : Int))),
        (13, .sc (.int .u64 ((v / 4294967296 : Nat) : Int))), (14, .sc (.int .u64 ((v % 4294967296 : Nat) : Int))), (15, .sc (.int .u64 (q.1 : Int))), (16, .sc (.int .u64 (q.2 : Int)))]) (fun _ => []) (fun q => q.1) (_, _) ⟨ks, hr0⟩ ?_ (fun _ => Nat.zero_le _) ?_
      · simp only [↓EVP0, EVQ0, EVQ1, EVQ2, EVQ3, EVQ4, EVA, EVK, EVFR, ↓reduceIte, Nat.reduceEqDiff, Nat.reduceAdd, Nat.reduceSub, Nat.reduceMul, Nat.reduceLT, Nat.reduceLeDiff, reduceCtorEq, Int.reduceToNat, Int.reduceLT, Int.reduceLE, Int.reduceAdd, Int.reduceSub, Int.reduceMul, Int.reduceNeg, Int.reduceEq, Nat.reduceMod, forall_eq_or_imp, forall_eq, forall_const, EVY, true_imp_iff, implies_true, Int.cast_ofNat_Int, forall_eq']
        have ey : (Y : Int) / 4294967296 = ((Y / 4294967296 : Nat) : Int) := by omega
        obtain ⟨f1, f2⟩ := k_first s3 s4 hu ks
        rw [m2, hor, ey, f1, f2]
        exact ⟨rfl, by omega, rfl, by omega, by omega, rfl, rfl⟩
      rintro ⟨q, r⟩ ⟨hk, hr⟩
      have hkc := k_cond hk hr (by omega)
      unfold lb85_1
      simp only [↓EVP0, EVQ0, EVQ1, EVQ2, EVQ3, EVQ4, EVA, EVK, EVFR, ↓reduceIte, Nat.reduceEqDiff, Nat.reduceAdd, Nat.reduceSub, Nat.reduceMul, Nat.reduceLT, Nat.reduceLeDiff, reduceCtorEq, Int.reduceToNat, Int.reduceLT, Int.reduceLE, Int.reduceAdd, Int.reduceSub, Int.reduceMul, Int.reduceNeg, Int.reduceEq, Nat.reduceMod, forall_eq_or_imp, forall_eq, forall_const, EVY, true_imp_iff, implies_true, Int.cast_ofNat_Int, forall_eq']
      rw [hkc]
      refine ⟨fun hc => ?_, fun hc => ?_⟩
      · obtain ⟨hk2, hqp⟩ := k_step s3 s4 hu (by omega) hk hr (by simpa using hc)
        have hq2 := hk.le
        refine ⟨fun hb => ⟨(), ?_⟩, fun hb => ⟨(q - 1, r + Y / 4294967296), ⟨hk2, ?_⟩, ⟨?_, ?_⟩, ?_⟩⟩
        · have he := k_end s3 s4 hu (by omega) hk2 (.inl (by simp at hb; omega))
          rw [hq1] at he
          omega
        · simp at hb ⊢; omega
        · simp only; omega
        · simp only; omega
        · simp only; omega
      · refine ⟨(), ?_⟩
        have he := k_end s3 s4 hu (by omega) hk (.inr (by simp at hc; omega))
        rw [hq1] at he
        simp only at he
        rw [he]
    rintro _ _
    simp only [↓EVP0, EVQ0, EVQ1, EVQ2, EVQ3, EVQ4, EVA, EVK, EVFR, ↓reduceIte, Nat.reduceEqDiff, Nat.reduceAdd, Nat.reduceSub, Nat.reduceMul, Nat.reduceLT, Nat.reduceLeDiff, reduceCtorEq, Int.reduceToNat, Int.reduceLT, Int.reduceLE, Int.reduceAdd, Int.reduceSub, Int.reduceMul, Int.reduceNeg, Int.reduceEq, Nat.reduceMod, forall_eq_or_imp, forall_eq, forall_const, EVY, true_imp_iff, implies_true, Int.cast_ofNat_Int, forall_eq']
    -- what is left for the second digit
    have h17 : (((u : Int) * 4294967296 % 18446744073709551616 + ((v / 4294967296 : Nat) : Int)) % 18446744073709551616 - (q1 : Int) * (Y : Int) % 18446744073709551616) % 18446744073709551616 = (u2 : Int) := by
      have : (q1 : Int) * (Y : Int) = ((Y * q1 : Nat) : Int) := by rw [Int.natCast_mul, Int.mul_comm]
      rw [this]
      omega
    have ks2 := k_start (y := Y) (u := u2) (a := v % 4294967296) s3 s4 hx2 (by omega)
    have hdig2 := k_digit (a := v % 4294967296) hx2 (by omega)
    refine ⟨by omega, ?_⟩
    have hr02 : u2 - u2 / (Y / 4294967296) * (Y / 4294967296) < 4294967296 := by
      have h5 := Nat.div_add_mod u2 (Y / 4294967296)
      have h6 := Nat.mod_lt u2 (show 0 < Y / 4294967296 by omega)
      rw [Nat.mul_comm] at h5
      omega
    obtain ⟨q0, hq0⟩ : ∃ q0, (u2 * 4294967296 + v % 4294967296) / Y = q0 := ⟨_, rfl⟩
    obtain ⟨u3, hu3⟩ : ∃ u3, (u2 * 4294967296 + v % 4294967296) % Y = u3 := ⟨_, rfl⟩
    have hy : Y * q0 + u3 = u2 * 4294967296 + v % 4294967296 := by rw [← hq0, ← hu3]; exact Nat.div_add_mod _ _
    have hy2 : u3 < Y := by rw [← hu3]; exact Nat.mod_lt _ (by omega)
    rw [hq0] at hdig2
    -- the whole quotient and rest
    have hall : u * 18446744073709551616 + v = Y * (q1 * 4294967296 + q0) + u3 := by
      rw [Nat.mul_add, ← Nat.mul_assoc]
      omega
    have hQ2 : (hi * 18446744073709551616 + lo) / y = q1 * 4294967296 + q0 := by
      rw [hQ, hall, Nat.mul_add_div (by omega), Nat.div_eq_of_lt hy2, Nat.add_zero]
    have hR2 : (hi * 18446744073709551616 + lo) % y = u3 / 2 ^ s := by
      rw [hR, hall, Nat.mul_add_mod, Nat.mod_eq_of_lt hy2]
    refine lwp_loop (α := Nat × Nat) (fun q => KInv Y u2 (v % 4294967296) q.1 q.2 ∧ q.2 < 4294967296) (fun q => [(2, .sc (.int .u64 (Y : Int))), (8, .sc (.int .u64 (s : Int))), (9, .sc (.int .u64 ((Y / 4294967296 : Nat) : Int))), (10, .sc (.int .u64 ((Y % 4294967296 : Nat) : Int))),
      (14, .sc (.int .u64 ((v % 4294967296 : Nat) : Int))), (15, .sc (.int .u64 (q1 : Int))), (17, .sc (.int .u64 (u2 : Int))), (18, .sc (.int .u64 (q.1 : Int))), (16, .sc (.int .u64 (q.2 : Int)))]) (fun _ => []) (fun q => q.1) (_, _) ⟨ks2, hr02⟩ ?_ (fun _ => Nat.zero_le _) ?_
    · simp only [↓EVP0, EVQ0, EVQ1, EVQ2, EVQ3, EVQ4, EVA, EVK, EVFR, ↓reduceIte, Nat.reduceEqDiff, Nat.reduceAdd, Nat.reduceSub, Nat.reduceMul, Nat.reduceLT, Nat.reduceLeDiff, reduceCtorEq, Int.reduceToNat, Int.reduceLT, Int.reduceLE, Int.reduceAdd, Int.reduceSub, Int.reduceMul, Int.reduceNeg, Int.reduceEq, Nat.reduceMod, forall_eq_or_imp, forall_eq, forall_const, EVY, true_imp_iff, implies_true, Int.cast_ofNat_Int, forall_eq']
      obtain ⟨f1, f2⟩ := k_first s3 s4 hx2 ks2
      rw [h17, f1, f2]
      exact ⟨rfl, rfl, rfl⟩
    rintro ⟨q, r⟩ ⟨hk, hr⟩
    have hkc := k_cond hk hr (by omega)
    have hend : ∀ z : Nat, z = q0 → (((q1 : Int) * 4294967296 % 18446744073709551616 + (z : Int)) % 18446744073709551616 = ((q1 * 4294967296 + q0 : Nat) : Int)) ∧
        (((u2 : Int) * 4294967296 % 18446744073709551616 + ((v % 4294967296 : Nat) : Int)) % 18446744073709551616 - (z : Int) * (Y : Int) % 18446744073709551616) % 18446744073709551616 = (u3 : Int) := by
      rintro z rfl
      have : (z : Int) * (Y : Int) = ((Y * z : Nat) : Int) := by rw [Int.natCast_mul, Int.mul_comm]
      rw [this]
      omega
    unfold lb85_0
    simp only [↓EVP0, EVQ0, EVQ1, EVQ2, EVQ3, EVQ4, EVA, EVK, EVFR, ↓reduceIte, Nat.reduceEqDiff, Nat.reduceAdd, Nat.reduceSub, Nat.reduceMul, Nat.reduceLT, Nat.reduceLeDiff, reduceCtorEq, Int.reduceToNat, Int.reduceLT, Int.reduceLE, Int.reduceAdd, Int.reduceSub, Int.reduceMul, Int.reduceNeg, Int.reduceEq, Nat.reduceMod, forall_eq_or_imp, forall_eq, forall_const, EVY, true_imp_iff, implies_true, Int.cast_ofNat_Int, forall_eq']
    rw [hkc, hQ2, hR2]
    simp only
    refine ⟨fun hc => ?_, fun hc => ?_⟩
    · obtain ⟨hk2, hqp⟩ := k_step s3 s4 hx2 (by omega) hk hr (by simpa using hc)
      have hq2 := hk.le
      simp only at hq2 hqp
      have eq' : ((q : Int) - 1) % 18446744073709551616 = ((q - 1 : Nat) : Int) := by omega
      rw [eq']
      refine ⟨fun hb => ⟨⟨by omega, by omega⟩, ?_⟩, fun hb => ⟨(q - 1, r + Y / 4294967296), ⟨hk2, ?_⟩, ⟨rfl, ?_⟩, ?_⟩⟩
      · have he := k_end s3 s4 hx2 (by omega) hk2 (.inl (by simp at hb; omega))
        rw [hq0] at he
        obtain ⟨g1, g2⟩ := hend _ he
        exact ⟨g1, by rw [g2, shr_nat]⟩
      · simp at hb ⊢; omega
      · simp only; omega
      · simp only; omega
    · have he := k_end s3 s4 hx2 (by omega) hk (.inr (by simp at hc; omega))
      rw [hq0] at he
      obtain ⟨g1, g2⟩ := hend _ he
      exact ⟨⟨by omega, by omega⟩, g1, by rw [g2, shr_nat]⟩
end Go.Proofs.YtdfiicpikcdokaaGreatDoor
namespace Go.Proofs.YtdfiicpikcdokaaGreatDoor
set_option linter.unusedSimpArgs false
set_option linter.unusedVariables false
open Go.RowKit
set_option linter.unusedVariables false

def sg (s : Bool) (m : Nat) : Int := bif s then -(m : Int) else m
def res (s : Bool) (m k : Nat) : Rt × Int := if m = 0 then (⟨0, 1⟩, 0) else if m ≤ 1152921504606846976 ∧ k ≤ 1152921504606846976 then (⟨sg s m, (k : Int)⟩, 0) else (⟨0, 0⟩, 10)
def low (x : Int) (y : Nat) : Rt × Int := res (decide (x < 0)) (x.natAbs / Nat.gcd x.natAbs y) (y / Nat.gcd x.natAbs y)

theorem sg_natAbs (s : Bool) (m : Nat) : (sg s m).natAbs = m := by cases s <;> simp [sg]
theorem sg_of (x : Int) : sg (decide (x < 0)) x.natAbs = x := by
  by_cases h : x < 0 <;> simp [sg, h] <;> omega
theorem lowest_uniq {X y m k : Nat} (hc : Nat.Coprime m k) (hk : 0 < k) (hy : 0 < y) (h : X * k = m * y) : X / Nat.gcd X y = m ∧ y / Nat.gcd X y = k := by
  have h1 : k ∣ m * y := ⟨X, by rw [← h, Nat.mul_comm]⟩
  obtain ⟨c, hcy⟩ := hc.symm.dvd_of_dvd_mul_left h1
  subst hcy
  have h2 : X = m * c := by
    have : k * X = k * (m * c) := by rw [Nat.mul_comm, h, ← Nat.mul_assoc, Nat.mul_comm m k, Nat.mul_assoc]
    exact Nat.eq_of_mul_eq_mul_left hk this
  subst h2
  have h3 : Nat.gcd (m * c) (k * c) = c := by rw [Nat.gcd_mul_right, hc, Nat.one_mul]
  have hcp : 0 < c := Nat.pos_of_mul_pos_left hy
  rw [h3]
  exact ⟨Nat.mul_div_cancel _ hcp, Nat.mul_div_cancel _ hcp⟩
theorem natAbs_mul_nat (x : Int) (k : Nat) : (x * (k : Int)).natAbs = x.natAbs * k := by rw [Int.natAbs_mul]; rfl
theorem neg_iff {x : Int} {s : Bool} {m y k : Nat} (hm : 0 < m) (hk : 0 < k) (hy : 0 < y) (h : x * k = sg s m * y) : decide (x < 0) = s := by
  have hk' : (0 : Int) < k := by omega
  have hmy : (0 : Int) < (m : Int) * y := by rw [← Int.natCast_mul]; exact Int.natCast_pos.2 (Nat.mul_pos hm hy)
  cases s
  · simp only [sg, cond_false] at h
    rw [decide_eq_false_iff_not]
    intro hx
    have := Int.mul_neg_of_neg_of_pos hx hk'
    omega
  · simp only [sg, cond_true, Int.neg_mul] at h
    rw [decide_eq_true_iff]
    rcases Int.lt_or_le x 0 with hx | hx
    · exact hx
    · have := Int.mul_nonneg hx (Int.le_of_lt hk')
      omega
theorem low_eq {x : Int} {y m k : Nat} {s : Bool} (hc : Nat.Coprime m k) (hk : 0 < k) (hy : 0 < y) (h : x * k = sg s m * y) : low x y = res s m k := by
  have h1 : x.natAbs * k = m * y := by
    have := congrArg Int.natAbs h
    rw [natAbs_mul_nat, natAbs_mul_nat, sg_natAbs] at this
    exact this
  obtain ⟨e1, e2⟩ := lowest_uniq hc hk hy h1
  unfold low
  rw [e1, e2]
  rcases Nat.eq_zero_or_pos m with rfl | hm
  · rfl
  · rw [neg_iff hm hk hy h]
theorem low_terms (x : Int) (y : Nat) (hy : 0 < y) : Nat.Coprime (x.natAbs / Nat.gcd x.natAbs y) (y / Nat.gcd x.natAbs y) ∧ 0 < y / Nat.gcd x.natAbs y ∧ x * ((y / Nat.gcd x.natAbs y : Nat) : Int) = sg (decide (x < 0)) (x.natAbs / Nat.gcd x.natAbs y) * (y : Int) := by
  have hg : 0 < Nat.gcd x.natAbs y := Nat.gcd_pos_of_pos_right _ hy
  refine ⟨Nat.coprime_div_gcd_div_gcd hg, Nat.div_pos (Nat.le_of_dvd hy (Nat.gcd_dvd_right _ _)) hg, ?_⟩
  have h1 : x.natAbs = Nat.gcd x.natAbs y * (x.natAbs / Nat.gcd x.natAbs y) := (Nat.mul_div_cancel' (Nat.gcd_dvd_left _ _)).symm
  have h2 : y = Nat.gcd x.natAbs y * (y / Nat.gcd x.natAbs y) := (Nat.mul_div_cancel' (Nat.gcd_dvd_right _ _)).symm
  have h3 := sg_of x
  generalize x.natAbs / Nat.gcd x.natAbs y = a at *
  generalize y / Nat.gcd x.natAbs y = b at *
  generalize Nat.gcd x.natAbs y = g at *
  have h1' : (x.natAbs : Int) = g * a := by rw [h1]; rfl
  have h2' : (y : Int) = g * b := by rw [h2]; rfl
  generalize decide (x < 0) = s at *
  clear h1 h2
  unfold sg at *
  cases s <;> simp only [cond_true, cond_false] at * <;> rw [h2', ← h3, h1'] <;> grind
def nrmR (r : Rt) : Rt := if r.d = 0 then ⟨r.n, 1⟩ else r
def Low (r : Rt) : Prop := 1 ≤ r.d ∧ r.d ≤ 1152921504606846976 ∧ -1152921504606846976 ≤ r.n ∧ r.n ≤ 1152921504606846976 ∧ Nat.Coprime r.n.natAbs r.d.natAbs
theorem vld_low {r : Rt} (h : vldR r = true) : Low (nrmR r) := by
  unfold vldR mag at h
  simp only [Bool.or_eq_true, Bool.and_eq_true, decide_eq_true_eq] at h
  unfold nrmR Low
  rcases h with ⟨h1, h2⟩ | ⟨h1, h2, h3, h4, h5⟩
  · rw [if_pos h2]
    simp [h1]
  · rw [if_neg (by omega)]
    exact ⟨h1, h2, h3, h4, h5⟩
theorem low_vld {r : Rt} (h : Low r) : vldR r = true ∧ nrmR r = r := by
  obtain ⟨h1, h2, h3, h4, h5⟩ := h
  unfold vldR mag nrmR
  simp only [Bool.or_eq_true, Bool.and_eq_true, decide_eq_true_eq]
  exact ⟨.inr ⟨h1, h2, h3, h4, h5⟩, by rw [if_neg (by omega)]⟩
theorem low_ok {x : Int} {y : Nat} (hy : 0 < y) : ((low x y).2 = 0 ∧ Low (low x y).1 ∧ (low x y).1.n * y = x * (low x y).1.d) ∨ low x y = (⟨0, 0⟩, 10) := by
  obtain ⟨h1, h2, h3⟩ := low_terms x y hy
  unfold low res
  generalize x.natAbs / Nat.gcd x.natAbs y = a at *
  generalize y / Nat.gcd x.natAbs y = b at *
  split
  · rename_i h
    subst h
    have hx : x = 0 := by
      have h4 : sg (decide (x < 0)) 0 = 0 := by cases decide (x < 0) <;> rfl
      rw [h4, Int.zero_mul] at h3
      rcases Int.mul_eq_zero.1 h3 with h | h
      · exact h
      · omega
    subst hx
    exact .inl ⟨rfl, by unfold Low; simp, by simp⟩
  · split
    · rename_i h
      refine .inl ⟨rfl, ?_, ?_⟩
      · have e := sg_natAbs (decide (x < 0)) a
        unfold Low
        simp only
        rw [e, Int.natAbs_natCast]
        refine ⟨by omega, by omega, ?_, ?_, h1⟩ <;> omega
      · simp only; rw [h3]
    · exact .inr rfl
def addE (a b : Rt) : Rt × Int := low (a.n * b.d + b.n * a.d) (a.d.natAbs * b.d.natAbs)
theorem dvd_natAbs_add {d : Nat} {u v : Int} (h : d ∣ (u + v).natAbs) (h2 : d ∣ v.natAbs) : d ∣ u.natAbs := by
  rw [← Int.ofNat_dvd_left] at h h2 ⊢
  have := Int.dvd_sub h h2
  rwa [Int.add_sub_cancel] at this
theorem cop_of_sum {u v : Int} {x : Nat} (hu : Nat.Coprime u.natAbs x) (hv : x ∣ v.natAbs) : Nat.Coprime (u + v).natAbs x := by
  have h1 : Nat.gcd (u + v).natAbs x ∣ u.natAbs := dvd_natAbs_add (Nat.gcd_dvd_left _ _) (Nat.dvd_trans (Nat.gcd_dvd_right _ _) hv)
  exact Nat.eq_one_of_dvd_one (hu ▸ Nat.dvd_gcd h1 (Nat.gcd_dvd_right _ _))
theorem knuth {an bn : Int} {ad bd : Nat} (ha : 0 < ad) (hb : 0 < bd) (ca : Nat.Coprime an.natAbs ad) (cb : Nat.Coprime bn.natAbs bd) (g x y : Nat) (hg : g = Nat.gcd ad bd) (hx : x = ad / g) (hy : y = bd / g) (S : Int) (hS : S = an * y + bn * x) (h : Nat) (hh : h = Nat.gcd g S.natAbs) :
    0 < g ∧ 0 < h ∧ low (an * bd + bn * ad) (ad * bd) = res (decide (S < 0)) (S.natAbs / h) (x * (bd / h)) := by
  have hg0 : 0 < g := by rw [hg]; exact Nat.gcd_pos_of_pos_left _ ha
  have hh0 : 0 < h := by rw [hh]; exact Nat.gcd_pos_of_pos_left _ hg0
  have e1 : ad = g * x := by rw [hx]; exact (Nat.mul_div_cancel' (hg ▸ Nat.gcd_dvd_left _ _)).symm
  have e2 : bd = g * y := by rw [hy]; exact (Nat.mul_div_cancel' (hg ▸ Nat.gcd_dvd_right _ _)).symm
  have cxy : Nat.Coprime x y := by rw [hx, hy, hg]; exact Nat.coprime_div_gcd_div_gcd (hg ▸ hg0)
  have hx0 : 0 < x := by rcases Nat.eq_zero_or_pos x with h | h; · rw [h] at e1; omega
                         · exact h
  have hy0 : 0 < y := by rcases Nat.eq_zero_or_pos y with h | h; · rw [h] at e2; omega
                         · exact h
  have cx : Nat.Coprime S.natAbs x := by
    rw [hS]
    refine cop_of_sum ?_ ?_
    · rw [natAbs_mul_nat]
      exact Nat.Coprime.mul_left (Nat.Coprime.coprime_dvd_right ⟨g, by rw [e1, Nat.mul_comm]⟩ ca) cxy.symm
    · rw [natAbs_mul_nat]; exact Nat.dvd_mul_left _ _
  have cy : Nat.Coprime S.natAbs y := by
    rw [hS, Int.add_comm]
    refine cop_of_sum ?_ ?_
    · rw [natAbs_mul_nat]
      exact Nat.Coprime.mul_left (Nat.Coprime.coprime_dvd_right ⟨g, by rw [e2, Nat.mul_comm]⟩ cb) cxy
    · rw [natAbs_mul_nat]; exact Nat.dvd_mul_left _ _
  have h1 : h ∣ g := hh ▸ Nat.gcd_dvd_left _ _
  have h2 : h ∣ S.natAbs := hh ▸ Nat.gcd_dvd_right _ _
  obtain ⟨gc, hgc⟩ := h1
  obtain ⟨sc, hsc⟩ := h2
  have c3 : Nat.Coprime sc gc := by
    have h3 := Nat.coprime_div_gcd_div_gcd (m := g) (n := S.natAbs) (hh ▸ hh0)
    rw [← hh, hsc, hgc, Nat.mul_div_cancel_left _ hh0, Nat.mul_div_cancel_left _ hh0] at h3
    exact h3.symm
  have e3 : S.natAbs / h = sc := by rw [hsc, Nat.mul_div_cancel_left _ hh0]
  have e4 : bd / h = gc * y := by rw [e2, hgc, Nat.mul_assoc, Nat.mul_div_cancel_left _ hh0]
  refine ⟨hg0, hh0, ?_⟩
  rw [e3, e4]
  have hscd : sc ∣ S.natAbs := ⟨h, by rw [hsc, Nat.mul_comm]⟩
  have hgc0 : 0 < gc := by rcases Nat.eq_zero_or_pos gc with h | h; · rw [h] at hgc; omega
                           · exact h
  refine low_eq ?_ (Nat.mul_pos hx0 (Nat.mul_pos hgc0 hy0)) (Nat.mul_pos ha hb) ?_
  · exact Nat.Coprime.mul_right (Nat.Coprime.coprime_dvd_left hscd cx) (Nat.Coprime.mul_right c3 (Nat.Coprime.coprime_dvd_left hscd cy))
  · have h5 := sg_of S
    rw [hsc] at h5
    have h6 : S = h * sg (decide (S < 0)) sc := by
      have : ∀ b : Bool, sg b (h * sc) = h * sg b sc := by intro b; cases b <;> simp [sg, Int.mul_neg]
      rw [this] at h5
      exact h5.symm
    generalize sg (decide (S < 0)) sc = q at *
    clear h5 e3 e4 hscd
    subst e1 e2
    simp only [Int.natCast_mul]
    have h7 : (g : Int) = h * gc := by rw [hgc]; rfl
    rw [h6] at hS
    clear hsc cx cy h6
    grind
end Go.Proofs.YtdfiicpikcdokaaGreatDoor
namespace Go.Proofs.YtdfiicpikcdokaaGreatDoor
set_option linter.unusedSimpArgs false
set_option linter.unusedVariables false
open Go.RowKit
set_option maxRecDepth 20000

def rrV (q : Rt × Int) : LV := .tup [ratV q.1, .sc (.int .i64 q.2)]
theorem div_wide (m d B : Nat) (h0 : 0 < d) (hB : 0 < B) : (m / B % d * B + m % B) / d = m / d % B ∧ (m / B % d * B + m % B) % d = m % d ∧ m / B / d = m / d / B := by
  have e1 := Nat.div_add_mod m B
  have e2 := Nat.div_add_mod (m / B) d
  have h3 : m / B % d < d := Nat.mod_lt _ h0
  have h4 : m % B < B := Nat.mod_lt _ hB
  have e5 : m / B / d = m / d / B := by rw [Nat.div_div_eq_div_mul, Nat.div_div_eq_div_mul, Nat.mul_comm]
  generalize m % B = lo at *
  generalize m / B = hi at *
  generalize hi % d = r at *
  generalize hi / d = q at *
  subst e2
  have hr : r * B + lo < d * B := by
    have : (r + 1) * B ≤ d * B := Nat.mul_le_mul_right _ h3
    rw [Nat.succ_mul] at this
    omega
  have em : m = d * (q * B) + (r * B + lo) := by rw [← e1]; grind
  have h6 : (r * B + lo) / d < B := by rw [Nat.div_lt_iff_lt_mul h0, Nat.mul_comm B]; exact hr
  refine ⟨?_, ?_, e5⟩
  · rw [em, Nat.mul_add_div h0, Nat.mul_comm q, Nat.mul_add_mod, Nat.mod_eq_of_lt h6]
  · rw [em, Nat.mul_add_mod]
theorem ev_divide (s : Bool) (m d : Nat) (hm : m < 340282366920938463463374607431768211456) (h0 : 0 < d) (h1 : d < 18446744073709551616) : Ev Tryz.prog 69 [wV s m, U64 d] (.tup [wV s (m / d), U64 (m % d)]) := by
  have h2 := ev_div64 (m / 18446744073709551616 % d) (m % 18446744073709551616) d (Nat.mod_lt _ h0) h1 (Nat.mod_lt _ (by decide))
  unfold wV
  refine ev_fn Tryz.func69 comp69 (show 2 ≤ Tryz.f69.ntmps by decide) ?_; unfold cf69 rf69; simp only [↓EVP0, EVQ0, EVQ1, EVQ2, EVQ3, EVQ4, EVA, EVK, EVFR, ↓reduceIte, Nat.reduceEqDiff, Nat.reduceAdd, Nat.reduceSub, Nat.reduceMul, Nat.reduceLT, Nat.reduceLeDiff, reduceCtorEq, Int.reduceToNat, Int.reduceLT, Int.reduceLE, Int.reduceAdd, Int.reduceSub, Int.reduceMul, Int.reduceNeg, Int.reduceEq, Nat.reduceMod, forall_eq_or_imp, forall_eq, forall_const, EVY, true_imp_iff, implies_true, Int.cast_ofNat_Int, forall_eq']
  refine ⟨by omega, ?_⟩
  rw [← Int.ofNat_tmod]
  first | refine qCallK_ro (h2) ?_ ?_ | refine eCallK_ro (h2) ?_ ?_
  · simp only [↓EVP0, EVQ0, EVQ1, EVQ2, EVQ3, EVQ4, EVA, EVK, EVFR, ↓reduceIte, Nat.reduceEqDiff, Nat.reduceAdd, Nat.reduceSub, Nat.reduceMul, Nat.reduceLT, Nat.reduceLeDiff, reduceCtorEq, Int.reduceToNat, Int.reduceLT, Int.reduceLE, Int.reduceAdd, Int.reduceSub, Int.reduceMul, Int.reduceNeg, Int.reduceEq, Nat.reduceMod, forall_eq_or_imp, forall_eq, forall_const, EVY, true_imp_iff, implies_true, Int.cast_ofNat_Int, forall_eq']
  simp only [↓EVP0, EVQ0, EVQ1, EVQ2, EVQ3, EVQ4, EVA, EVK, EVFR, ↓reduceIte, Nat.reduceEqDiff, Nat.reduceAdd, Nat.reduceSub, Nat.reduceMul, Nat.reduceLT, Nat.reduceLeDiff, reduceCtorEq, Int.reduceToNat, Int.reduceLT, Int.reduceLE, Int.reduceAdd, Int.reduceSub, Int.reduceMul, Int.reduceNeg, Int.reduceEq, Nat.reduceMod, forall_eq_or_imp, forall_eq, forall_const, EVY, true_imp_iff, implies_true, Int.cast_ofNat_Int, forall_eq']
  obtain ⟨g1, g2, g3⟩ := div_wide m d 18446744073709551616 h0 (by decide)
  rw [← Int.ofNat_tdiv, g1, g2, g3]
  have : m / d ≤ m := Nat.div_le_self _ _
  have h5 : m / d / 18446744073709551616 < 18446744073709551616 := by omega
  refine ⟨by omega, ⟨?_, rfl⟩, rfl⟩
  generalize m / d / 18446744073709551616 = z at *
  omega
theorem ev_normal (r : Rt) : Ev Tryz.prog 39 [ratV r] (ratV (nrmR r)) := by
  unfold ratV
  refine ev_fn Tryz.func39 comp39 (show 1 ≤ Tryz.f39.ntmps by decide) ?_; unfold cf39 rf39; simp only [↓EVP0, EVQ0, EVQ1, EVQ2, EVQ3, EVQ4, EVA, EVK, EVFR, ↓reduceIte, Nat.reduceEqDiff, Nat.reduceAdd, Nat.reduceSub, Nat.reduceMul, Nat.reduceLT, Nat.reduceLeDiff, reduceCtorEq, Int.reduceToNat, Int.reduceLT, Int.reduceLE, Int.reduceAdd, Int.reduceSub, Int.reduceMul, Int.reduceNeg, Int.reduceEq, Nat.reduceMod, forall_eq_or_imp, forall_eq, forall_const, EVY, true_imp_iff, implies_true, Int.cast_ofNat_Int, forall_eq']
  unfold nrmR
  refine ⟨fun g => ?_, fun g => ?_⟩
  · rw [if_pos (by simpa using g)]; exact ⟨rfl, rfl⟩
  · rw [if_neg (by simpa using g)]; exact ⟨rfl, rfl⟩
theorem ev_result (s : Bool) (m k : Nat) : Ev Tryz.prog 70 [wV s m, wV false k] (rrV (res s m k)) := by
  have h1 := ev_fits s m
  have h2 := ev_fits false k
  unfold rrV ratV
  unfold wV at *
  refine ev_fn Tryz.func70 comp70 (show 2 ≤ Tryz.f70.ntmps by decide) ?_; unfold cf70 rf70; simp only [↓EVP0, EVQ0, EVQ1, EVQ2, EVQ3, EVQ4, EVA, EVK, EVFR, ↓reduceIte, Nat.reduceEqDiff, Nat.reduceAdd, Nat.reduceSub, Nat.reduceMul, Nat.reduceLT, Nat.reduceLeDiff, reduceCtorEq, Int.reduceToNat, Int.reduceLT, Int.reduceLE, Int.reduceAdd, Int.reduceSub, Int.reduceMul, Int.reduceNeg, Int.reduceEq, Nat.reduceMod, forall_eq_or_imp, forall_eq, forall_const, EVY, true_imp_iff, implies_true, Int.cast_ofNat_Int, forall_eq']
  refine ⟨fun g => ?_, fun g => ?_⟩
  · have : m = 0 := by
      rw [condF] at g
      simp only [Bool.and_eq_true, decide_eq_true_eq] at g
      omega
    unfold res
    rw [if_pos this]
    exact ⟨⟨rfl, rfl⟩, rfl⟩
  have hm : m ≠ 0 := by
    intro h
    subst h
    simp at g
  refine callK_ro (h1) ?_ ?_
  · simp only [↓EVP0, EVQ0, EVQ1, EVQ2, EVQ3, EVQ4, EVA, EVK, EVFR, ↓reduceIte, Nat.reduceEqDiff, Nat.reduceAdd, Nat.reduceSub, Nat.reduceMul, Nat.reduceLT, Nat.reduceLeDiff, reduceCtorEq, Int.reduceToNat, Int.reduceLT, Int.reduceLE, Int.reduceAdd, Int.reduceSub, Int.reduceMul, Int.reduceNeg, Int.reduceEq, Nat.reduceMod, forall_eq_or_imp, forall_eq, forall_const, EVY, true_imp_iff, implies_true, Int.cast_ofNat_Int, forall_eq']
  simp only [↓EVP0, EVQ0, EVQ1, EVQ2, EVQ3, EVQ4, EVA, EVK, EVFR, ↓reduceIte, Nat.reduceEqDiff, Nat.reduceAdd, Nat.reduceSub, Nat.reduceMul, Nat.reduceLT, Nat.reduceLeDiff, reduceCtorEq, Int.reduceToNat, Int.reduceLT, Int.reduceLE, Int.reduceAdd, Int.reduceSub, Int.reduceMul, Int.reduceNeg, Int.reduceEq, Nat.reduceMod, forall_eq_or_imp, forall_eq, forall_const, EVY, true_imp_iff, implies_true, Int.cast_ofNat_Int, forall_eq']
  (refine lops_ge_imp ?_; simp only [↓EVP0, EVQ0, EVQ1, EVQ2, EVQ3, EVQ4, EVA, EVK, EVFR, ↓reduceIte, Nat.reduceEqDiff, Nat.reduceAdd, Nat.reduceSub, Nat.reduceMul, Nat.reduceLT, Nat.reduceLeDiff, reduceCtorEq, Int.reduceToNat, Int.reduceLT, Int.reduceLE, Int.reduceAdd, Int.reduceSub, Int.reduceMul, Int.reduceNeg, Int.reduceEq, Nat.reduceMod, forall_eq_or_imp, forall_eq, forall_const, EVY, true_imp_iff, implies_true, Int.cast_ofNat_Int, forall_eq'])
  refine gCallK_ro _ (fun _ => h2) (fun _ => ?_) ?_
  · simp only [↓EVP0, EVQ0, EVQ1, EVQ2, EVQ3, EVQ4, EVA, EVK, EVFR, ↓reduceIte, Nat.reduceEqDiff, Nat.reduceAdd, Nat.reduceSub, Nat.reduceMul, Nat.reduceLT, Nat.reduceLeDiff, reduceCtorEq, Int.reduceToNat, Int.reduceLT, Int.reduceLE, Int.reduceAdd, Int.reduceSub, Int.reduceMul, Int.reduceNeg, Int.reduceEq, Nat.reduceMod, forall_eq_or_imp, forall_eq, forall_const, EVY, true_imp_iff, implies_true, Int.cast_ofNat_Int, forall_eq']
  simp only [↓EVP0, EVQ0, EVQ1, EVQ2, EVQ3, EVQ4, EVA, EVK, EVFR, ↓reduceIte, Nat.reduceEqDiff, Nat.reduceAdd, Nat.reduceSub, Nat.reduceMul, Nat.reduceLT, Nat.reduceLeDiff, reduceCtorEq, Int.reduceToNat, Int.reduceLT, Int.reduceLE, Int.reduceAdd, Int.reduceSub, Int.reduceMul, Int.reduceNeg, Int.reduceEq, Nat.reduceMod, forall_eq_or_imp, forall_eq, forall_const, EVY, true_imp_iff, implies_true, Int.cast_ofNat_Int, forall_eq']
  have hc : (bif !decide (m ≤ 1152921504606846976) then true else !decide (k ≤ 1152921504606846976)) = !decide (m ≤ 1152921504606846976 ∧ k ≤ 1152921504606846976) := by
    rw [condT]
    cases h8 : decide (m ≤ 1152921504606846976) <;> cases h9 : decide (k ≤ 1152921504606846976) <;> simp_all
  rw [hc]
  unfold res
  rw [if_neg hm]
  refine ⟨fun g2 => ?_, fun g2 => ?_⟩
  · rw [if_neg (by intro h8; rw [decide_eq_true h8] at g2; simp at g2)]; exact ⟨⟨rfl, rfl⟩, rfl⟩
  · have g3 : m ≤ 1152921504606846976 ∧ k ≤ 1152921504606846976 := by simpa using g2
    rw [if_pos g3]
    have h3 := ev_signed s m g3.1
    have h4 := ev_signed false k g3.2
    unfold wV at h3 h4
    first | refine qCallK_ro (h3) ?_ ?_ | refine eCallK_ro (h3) ?_ ?_
    · simp only [↓EVP0, EVQ0, EVQ1, EVQ2, EVQ3, EVQ4, EVA, EVK, EVFR, ↓reduceIte, Nat.reduceEqDiff, Nat.reduceAdd, Nat.reduceSub, Nat.reduceMul, Nat.reduceLT, Nat.reduceLeDiff, reduceCtorEq, Int.reduceToNat, Int.reduceLT, Int.reduceLE, Int.reduceAdd, Int.reduceSub, Int.reduceMul, Int.reduceNeg, Int.reduceEq, Nat.reduceMod, forall_eq_or_imp, forall_eq, forall_const, EVY, true_imp_iff, implies_true, Int.cast_ofNat_Int, forall_eq']
    simp only [↓EVP0, EVQ0, EVQ1, EVQ2, EVQ3, EVQ4, EVA, EVK, EVFR, ↓reduceIte, Nat.reduceEqDiff, Nat.reduceAdd, Nat.reduceSub, Nat.reduceMul, Nat.reduceLT, Nat.reduceLeDiff, reduceCtorEq, Int.reduceToNat, Int.reduceLT, Int.reduceLE, Int.reduceAdd, Int.reduceSub, Int.reduceMul, Int.reduceNeg, Int.reduceEq, Nat.reduceMod, forall_eq_or_imp, forall_eq, forall_const, EVY, true_imp_iff, implies_true, Int.cast_ofNat_Int, forall_eq']
    first | refine qCallK_ro (h4) ?_ ?_ | refine eCallK_ro (h4) ?_ ?_
    · simp only [↓EVP0, EVQ0, EVQ1, EVQ2, EVQ3, EVQ4, EVA, EVK, EVFR, ↓reduceIte, Nat.reduceEqDiff, Nat.reduceAdd, Nat.reduceSub, Nat.reduceMul, Nat.reduceLT, Nat.reduceLeDiff, reduceCtorEq, Int.reduceToNat, Int.reduceLT, Int.reduceLE, Int.reduceAdd, Int.reduceSub, Int.reduceMul, Int.reduceNeg, Int.reduceEq, Nat.reduceMod, forall_eq_or_imp, forall_eq, forall_const, EVY, true_imp_iff, implies_true, Int.cast_ofNat_Int, forall_eq']
    simp only [↓EVP0, EVQ0, EVQ1, EVQ2, EVQ3, EVQ4, EVA, EVK, EVFR, ↓reduceIte, Nat.reduceEqDiff, Nat.reduceAdd, Nat.reduceSub, Nat.reduceMul, Nat.reduceLT, Nat.reduceLeDiff, reduceCtorEq, Int.reduceToNat, Int.reduceLT, Int.reduceLE, Int.reduceAdd, Int.reduceSub, Int.reduceMul, Int.reduceNeg, Int.reduceEq, Nat.reduceMod, forall_eq_or_imp, forall_eq, forall_const, EVY, true_imp_iff, implies_true, Int.cast_ofNat_Int, forall_eq']
    rfl
def addR (a b : Rt) : Rt × Int := if vldR a = true ∧ vldR b = true then addE (nrmR a) (nrmR b) else (⟨0, 0⟩, 1)
theorem nrm_ok {a : Rt} (h : RtOk a) : RtOk (nrmR a) := by
  unfold nrmR; split
  · exact ⟨h.1, by unfold In64; simp⟩
  · exact h
theorem cast_mod {x : Nat} (h : x < 18446744073709551616) : (x : Int) % 18446744073709551616 = x := by omega
theorem addW_sg (s t : Bool) (m k : Nat) : sg (addW s m t k).1 (addW s m t k).2 = sg s m + sg t k := by
  unfold addW
  by_cases h : s = t
  · subst h
    cases s <;> simp [sg] <;> omega
  · rw [decide_eq_false h, cond_false]
    by_cases h2 : m < k
    · rw [decide_eq_true h2, cond_true]
      cases s <;> cases t <;> simp_all [sg] <;> omega
    · rw [decide_eq_false h2, cond_false]
      cases s <;> cases t <;> simp_all [sg] <;> omega
theorem sg_prod (n : Int) (y : Nat) : sg (decide (n < 0)) (mag n * y) = n * y := by
  have h := sg_of n
  have : sg (decide (n < 0)) (mag n * y) = sg (decide (n < 0)) n.natAbs * y := by
    unfold mag
    generalize n.natAbs = k
    cases decide (n < 0) <;> simp [sg, Int.natCast_mul, Int.neg_mul]
  rw [this, h]
theorem mul_small {a b : Nat} (ha : a ≤ 9223372036854775808) (hb : b ≤ 9223372036854775808) : a * b ≤ 85070591730234615865843651857942052864 := Nat.le_trans (Nat.mul_le_mul ha hb) (by decide)
theorem addW_le (s t : Bool) (m k : Nat) : (addW s m t k).2 ≤ m + k := by
  unfold addW
  cases decide (s = t) <;> cases decide (m < k) <;> simp <;> omega
theorem sg_inv {s : Bool} {m : Nat} {x : Int} (h : sg s m = x) : x.natAbs = m ∧ (0 < m → decide (x < 0) = s) := by
  subst h
  refine ⟨sg_natAbs s m, fun h => ?_⟩
  cases s
  · exact decide_eq_false (show ¬ (m : Int) < 0 by omega)
  · exact decide_eq_true (show -(m : Int) < 0 by omega)
theorem nv_cond (a b : Bool) : (bif !a then true else !b) = !decide (a = true ∧ b = true) := by cases a <;> cases b <;> rfl
theorem ev_add (a b : Rt) (ha : RtOk a) (hb : RtOk b) : Ev Tryz.prog 55 [ratV a, ratV b] (rrV (addR a b)) := by
  have v1 := ev_valid a ha
  have v2 := ev_valid b hb
  unfold rrV
  unfold ratV at *
  refine ev_fn Tryz.func55 comp55 (show 2 ≤ Tryz.f55.ntmps by decide) ?_; unfold cf55 rf55; simp only [↓EVP0, EVQ0, EVQ1, EVQ2, EVQ3, EVQ4, EVA, EVK, EVFR, ↓reduceIte, Nat.reduceEqDiff, Nat.reduceAdd, Nat.reduceSub, Nat.reduceMul, Nat.reduceLT, Nat.reduceLeDiff, reduceCtorEq, Int.reduceToNat, Int.reduceLT, Int.reduceLE, Int.reduceAdd, Int.reduceSub, Int.reduceMul, Int.reduceNeg, Int.reduceEq, Nat.reduceMod, forall_eq_or_imp, forall_eq, forall_const, EVY, true_imp_iff, implies_true, Int.cast_ofNat_Int, forall_eq']
  refine callK_ro (v1) ?_ ?_
  · simp only [↓EVP0, EVQ0, EVQ1, EVQ2, EVQ3, EVQ4, EVA, EVK, EVFR, ↓reduceIte, Nat.reduceEqDiff, Nat.reduceAdd, Nat.reduceSub, Nat.reduceMul, Nat.reduceLT, Nat.reduceLeDiff, reduceCtorEq, Int.reduceToNat, Int.reduceLT, Int.reduceLE, Int.reduceAdd, Int.reduceSub, Int.reduceMul, Int.reduceNeg, Int.reduceEq, Nat.reduceMod, forall_eq_or_imp, forall_eq, forall_const, EVY, true_imp_iff, implies_true, Int.cast_ofNat_Int, forall_eq']
  simp only [↓EVP0, EVQ0, EVQ1, EVQ2, EVQ3, EVQ4, EVA, EVK, EVFR, ↓reduceIte, Nat.reduceEqDiff, Nat.reduceAdd, Nat.reduceSub, Nat.reduceMul, Nat.reduceLT, Nat.reduceLeDiff, reduceCtorEq, Int.reduceToNat, Int.reduceLT, Int.reduceLE, Int.reduceAdd, Int.reduceSub, Int.reduceMul, Int.reduceNeg, Int.reduceEq, Nat.reduceMod, forall_eq_or_imp, forall_eq, forall_const, EVY, true_imp_iff, implies_true, Int.cast_ofNat_Int, forall_eq']
  (refine lops_ge_imp ?_; simp only [↓EVP0, EVQ0, EVQ1, EVQ2, EVQ3, EVQ4, EVA, EVK, EVFR, ↓reduceIte, Nat.reduceEqDiff, Nat.reduceAdd, Nat.reduceSub, Nat.reduceMul, Nat.reduceLT, Nat.reduceLeDiff, reduceCtorEq, Int.reduceToNat, Int.reduceLT, Int.reduceLE, Int.reduceAdd, Int.reduceSub, Int.reduceMul, Int.reduceNeg, Int.reduceEq, Nat.reduceMod, forall_eq_or_imp, forall_eq, forall_const, EVY, true_imp_iff, implies_true, Int.cast_ofNat_Int, forall_eq'])
  refine gCallK_ro _ (fun _ => v2) (fun _ => ?_) ?_
  · simp only [↓EVP0, EVQ0, EVQ1, EVQ2, EVQ3, EVQ4, EVA, EVK, EVFR, ↓reduceIte, Nat.reduceEqDiff, Nat.reduceAdd, Nat.reduceSub, Nat.reduceMul, Nat.reduceLT, Nat.reduceLeDiff, reduceCtorEq, Int.reduceToNat, Int.reduceLT, Int.reduceLE, Int.reduceAdd, Int.reduceSub, Int.reduceMul, Int.reduceNeg, Int.reduceEq, Nat.reduceMod, forall_eq_or_imp, forall_eq, forall_const, EVY, true_imp_iff, implies_true, Int.cast_ofNat_Int, forall_eq']
  simp only [↓EVP0, EVQ0, EVQ1, EVQ2, EVQ3, EVQ4, EVA, EVK, EVFR, ↓reduceIte, Nat.reduceEqDiff, Nat.reduceAdd, Nat.reduceSub, Nat.reduceMul, Nat.reduceLT, Nat.reduceLeDiff, reduceCtorEq, Int.reduceToNat, Int.reduceLT, Int.reduceLE, Int.reduceAdd, Int.reduceSub, Int.reduceMul, Int.reduceNeg, Int.reduceEq, Nat.reduceMod, forall_eq_or_imp, forall_eq, forall_const, EVY, true_imp_iff, implies_true, Int.cast_ofNat_Int, forall_eq']
  rw [nv_cond]
  unfold addR
  refine ⟨fun g => ?_, fun g => ?_⟩
  · rw [if_neg (by intro h8; rw [decide_eq_true h8] at g; simp at g)]; exact ⟨⟨rfl, rfl⟩, rfl⟩
  have hv : vldR a = true ∧ vldR b = true := by simpa using g
  rw [if_pos hv]
  have n1 := ev_normal a
  have n2 := ev_normal b
  unfold ratV at n1 n2
  first | refine qCallK_ro (n1) ?_ ?_ | refine eCallK_ro (n1) ?_ ?_
  · simp only [↓EVP0, EVQ0, EVQ1, EVQ2, EVQ3, EVQ4, EVA, EVK, EVFR, ↓reduceIte, Nat.reduceEqDiff, Nat.reduceAdd, Nat.reduceSub, Nat.reduceMul, Nat.reduceLT, Nat.reduceLeDiff, reduceCtorEq, Int.reduceToNat, Int.reduceLT, Int.reduceLE, Int.reduceAdd, Int.reduceSub, Int.reduceMul, Int.reduceNeg, Int.reduceEq, Nat.reduceMod, forall_eq_or_imp, forall_eq, forall_const, EVY, true_imp_iff, implies_true, Int.cast_ofNat_Int, forall_eq']
  simp only [↓EVP0, EVQ0, EVQ1, EVQ2, EVQ3, EVQ4, EVA, EVK, EVFR, ↓reduceIte, Nat.reduceEqDiff, Nat.reduceAdd, Nat.reduceSub, Nat.reduceMul, Nat.reduceLT, Nat.reduceLeDiff, reduceCtorEq, Int.reduceToNat, Int.reduceLT, Int.reduceLE, Int.reduceAdd, Int.reduceSub, Int.reduceMul, Int.reduceNeg, Int.reduceEq, Nat.reduceMod, forall_eq_or_imp, forall_eq, forall_const, EVY, true_imp_iff, implies_true, Int.cast_ofNat_Int, forall_eq']
  first | refine qCallK_ro (n2) ?_ ?_ | refine eCallK_ro (n2) ?_ ?_
  · simp only [↓EVP0, EVQ0, EVQ1, EVQ2, EVQ3, EVQ4, EVA, EVK, EVFR, ↓reduceIte, Nat.reduceEqDiff, Nat.reduceAdd, Nat.reduceSub, Nat.reduceMul, Nat.reduceLT, Nat.reduceLeDiff, reduceCtorEq, Int.reduceToNat, Int.reduceLT, Int.reduceLE, Int.reduceAdd, Int.reduceSub, Int.reduceMul, Int.reduceNeg, Int.reduceEq, Nat.reduceMod, forall_eq_or_imp, forall_eq, forall_const, EVY, true_imp_iff, implies_true, Int.cast_ofNat_Int, forall_eq']
  simp only [↓EVP0, EVQ0, EVQ1, EVQ2, EVQ3, EVQ4, EVA, EVK, EVFR, ↓reduceIte, Nat.reduceEqDiff, Nat.reduceAdd, Nat.reduceSub, Nat.reduceMul, Nat.reduceLT, Nat.reduceLeDiff, reduceCtorEq, Int.reduceToNat, Int.reduceLT, Int.reduceLE, Int.reduceAdd, Int.reduceSub, Int.reduceMul, Int.reduceNeg, Int.reduceEq, Nat.reduceMod, forall_eq_or_imp, forall_eq, forall_const, EVY, true_imp_iff, implies_true, Int.cast_ofNat_Int, forall_eq']
  have hA := vld_low hv.1
  have hB := vld_low hv.2
  have oA := nrm_ok ha
  have oB := nrm_ok hb
  generalize nrmR a = A at *
  generalize nrmR b = B at *
  have s1 := ev_size A.d oA.2
  have s2 := ev_size B.d oB.2
  have g1 := ev_gcd (mag A.d) (mag B.d)
  first | refine qCallK_ro (s1) ?_ ?_ | refine eCallK_ro (s1) ?_ ?_
  · simp only [↓EVP0, EVQ0, EVQ1, EVQ2, EVQ3, EVQ4, EVA, EVK, EVFR, ↓reduceIte, Nat.reduceEqDiff, Nat.reduceAdd, Nat.reduceSub, Nat.reduceMul, Nat.reduceLT, Nat.reduceLeDiff, reduceCtorEq, Int.reduceToNat, Int.reduceLT, Int.reduceLE, Int.reduceAdd, Int.reduceSub, Int.reduceMul, Int.reduceNeg, Int.reduceEq, Nat.reduceMod, forall_eq_or_imp, forall_eq, forall_const, EVY, true_imp_iff, implies_true, Int.cast_ofNat_Int, forall_eq']
  simp only [↓EVP0, EVQ0, EVQ1, EVQ2, EVQ3, EVQ4, EVA, EVK, EVFR, ↓reduceIte, Nat.reduceEqDiff, Nat.reduceAdd, Nat.reduceSub, Nat.reduceMul, Nat.reduceLT, Nat.reduceLeDiff, reduceCtorEq, Int.reduceToNat, Int.reduceLT, Int.reduceLE, Int.reduceAdd, Int.reduceSub, Int.reduceMul, Int.reduceNeg, Int.reduceEq, Nat.reduceMod, forall_eq_or_imp, forall_eq, forall_const, EVY, true_imp_iff, implies_true, Int.cast_ofNat_Int, forall_eq']
  first | refine qCallK_ro (s2) ?_ ?_ | refine eCallK_ro (s2) ?_ ?_
  · simp only [↓EVP0, EVQ0, EVQ1, EVQ2, EVQ3, EVQ4, EVA, EVK, EVFR, ↓reduceIte, Nat.reduceEqDiff, Nat.reduceAdd, Nat.reduceSub, Nat.reduceMul, Nat.reduceLT, Nat.reduceLeDiff, reduceCtorEq, Int.reduceToNat, Int.reduceLT, Int.reduceLE, Int.reduceAdd, Int.reduceSub, Int.reduceMul, Int.reduceNeg, Int.reduceEq, Nat.reduceMod, forall_eq_or_imp, forall_eq, forall_const, EVY, true_imp_iff, implies_true, Int.cast_ofNat_Int, forall_eq']
  simp only [↓EVP0, EVQ0, EVQ1, EVQ2, EVQ3, EVQ4, EVA, EVK, EVFR, ↓reduceIte, Nat.reduceEqDiff, Nat.reduceAdd, Nat.reduceSub, Nat.reduceMul, Nat.reduceLT, Nat.reduceLeDiff, reduceCtorEq, Int.reduceToNat, Int.reduceLT, Int.reduceLE, Int.reduceAdd, Int.reduceSub, Int.reduceMul, Int.reduceNeg, Int.reduceEq, Nat.reduceMod, forall_eq_or_imp, forall_eq, forall_const, EVY, true_imp_iff, implies_true, Int.cast_ofNat_Int, forall_eq']
  first | refine qCallK_ro (g1) ?_ ?_ | refine eCallK_ro (g1) ?_ ?_
  · simp only [↓EVP0, EVQ0, EVQ1, EVQ2, EVQ3, EVQ4, EVA, EVK, EVFR, ↓reduceIte, Nat.reduceEqDiff, Nat.reduceAdd, Nat.reduceSub, Nat.reduceMul, Nat.reduceLT, Nat.reduceLeDiff, reduceCtorEq, Int.reduceToNat, Int.reduceLT, Int.reduceLE, Int.reduceAdd, Int.reduceSub, Int.reduceMul, Int.reduceNeg, Int.reduceEq, Nat.reduceMod, forall_eq_or_imp, forall_eq, forall_const, EVY, true_imp_iff, implies_true, Int.cast_ofNat_Int, forall_eq']
  simp only [↓EVP0, EVQ0, EVQ1, EVQ2, EVQ3, EVQ4, EVA, EVK, EVFR, ↓reduceIte, Nat.reduceEqDiff, Nat.reduceAdd, Nat.reduceSub, Nat.reduceMul, Nat.reduceLT, Nat.reduceLeDiff, reduceCtorEq, Int.reduceToNat, Int.reduceLT, Int.reduceLE, Int.reduceAdd, Int.reduceSub, Int.reduceMul, Int.reduceNeg, Int.reduceEq, Nat.reduceMod, forall_eq_or_imp, forall_eq, forall_const, EVY, true_imp_iff, implies_true, Int.cast_ofNat_Int, forall_eq']
  have pa : 0 < mag A.d := by have := hA.1; unfold mag; omega
  have pb : 0 < mag B.d := by have := hB.1; unfold mag; omega
  have la := mag_le oA.2
  have lb := mag_le oB.2
  obtain ⟨k1, k2, k3⟩ := knuth (an := A.n) (bn := B.n) pa pb hA.2.2.2.2 hB.2.2.2.2 _ _ _ rfl rfl rfl _ rfl _ rfl
  have hgne : ((Nat.gcd (mag A.d) (mag B.d) : Nat) : Int) ≠ 0 := by omega
  have lx : mag A.d / Nat.gcd (mag A.d) (mag B.d) ≤ mag A.d := Nat.div_le_self _ _
  have ly : mag B.d / Nat.gcd (mag A.d) (mag B.d) ≤ mag B.d := Nat.div_le_self _ _
  first | refine qCallK_ro (s1) ?_ ?_ | refine eCallK_ro (s1) ?_ ?_
  · simp only [↓EVP0, EVQ0, EVQ1, EVQ2, EVQ3, EVQ4, EVA, EVK, EVFR, ↓reduceIte, Nat.reduceEqDiff, Nat.reduceAdd, Nat.reduceSub, Nat.reduceMul, Nat.reduceLT, Nat.reduceLeDiff, reduceCtorEq, Int.reduceToNat, Int.reduceLT, Int.reduceLE, Int.reduceAdd, Int.reduceSub, Int.reduceMul, Int.reduceNeg, Int.reduceEq, Nat.reduceMod, forall_eq_or_imp, forall_eq, forall_const, EVY, true_imp_iff, implies_true, Int.cast_ofNat_Int, forall_eq']
  simp only [↓EVP0, EVQ0, EVQ1, EVQ2, EVQ3, EVQ4, EVA, EVK, EVFR, ↓reduceIte, Nat.reduceEqDiff, Nat.reduceAdd, Nat.reduceSub, Nat.reduceMul, Nat.reduceLT, Nat.reduceLeDiff, reduceCtorEq, Int.reduceToNat, Int.reduceLT, Int.reduceLE, Int.reduceAdd, Int.reduceSub, Int.reduceMul, Int.reduceNeg, Int.reduceEq, Nat.reduceMod, forall_eq_or_imp, forall_eq, forall_const, EVY, true_imp_iff, implies_true, Int.cast_ofNat_Int, forall_eq']
  refine ⟨hgne, ?_⟩
  first | refine qCallK_ro (s2) ?_ ?_ | refine eCallK_ro (s2) ?_ ?_
  · simp only [↓EVP0, EVQ0, EVQ1, EVQ2, EVQ3, EVQ4, EVA, EVK, EVFR, ↓reduceIte, Nat.reduceEqDiff, Nat.reduceAdd, Nat.reduceSub, Nat.reduceMul, Nat.reduceLT, Nat.reduceLeDiff, reduceCtorEq, Int.reduceToNat, Int.reduceLT, Int.reduceLE, Int.reduceAdd, Int.reduceSub, Int.reduceMul, Int.reduceNeg, Int.reduceEq, Nat.reduceMod, forall_eq_or_imp, forall_eq, forall_const, EVY, true_imp_iff, implies_true, Int.cast_ofNat_Int, forall_eq']
  simp only [↓EVP0, EVQ0, EVQ1, EVQ2, EVQ3, EVQ4, EVA, EVK, EVFR, ↓reduceIte, Nat.reduceEqDiff, Nat.reduceAdd, Nat.reduceSub, Nat.reduceMul, Nat.reduceLT, Nat.reduceLeDiff, reduceCtorEq, Int.reduceToNat, Int.reduceLT, Int.reduceLE, Int.reduceAdd, Int.reduceSub, Int.reduceMul, Int.reduceNeg, Int.reduceEq, Nat.reduceMod, forall_eq_or_imp, forall_eq, forall_const, EVY, true_imp_iff, implies_true, Int.cast_ofNat_Int, forall_eq']
  refine ⟨hgne, ?_⟩
  rw [← Int.ofNat_tdiv, ← Int.ofNat_tdiv, cast_mod (by omega), cast_mod (by omega)]
  have p1 := ev_product A.n (mag B.d / Nat.gcd (mag A.d) (mag B.d)) oA.1 (by omega)
  have p2 := ev_product B.n (mag A.d / Nat.gcd (mag A.d) (mag B.d)) oB.1 (by omega)
  unfold wV at p1 p2
  first | refine qCallK_ro (p1) ?_ ?_ | refine eCallK_ro (p1) ?_ ?_
  · simp only [↓EVP0, EVQ0, EVQ1, EVQ2, EVQ3, EVQ4, EVA, EVK, EVFR, ↓reduceIte, Nat.reduceEqDiff, Nat.reduceAdd, Nat.reduceSub, Nat.reduceMul, Nat.reduceLT, Nat.reduceLeDiff, reduceCtorEq, Int.reduceToNat, Int.reduceLT, Int.reduceLE, Int.reduceAdd, Int.reduceSub, Int.reduceMul, Int.reduceNeg, Int.reduceEq, Nat.reduceMod, forall_eq_or_imp, forall_eq, forall_const, EVY, true_imp_iff, implies_true, Int.cast_ofNat_Int, forall_eq']
  simp only [↓EVP0, EVQ0, EVQ1, EVQ2, EVQ3, EVQ4, EVA, EVK, EVFR, ↓reduceIte, Nat.reduceEqDiff, Nat.reduceAdd, Nat.reduceSub, Nat.reduceMul, Nat.reduceLT, Nat.reduceLeDiff, reduceCtorEq, Int.reduceToNat, Int.reduceLT, Int.reduceLE, Int.reduceAdd, Int.reduceSub, Int.reduceMul, Int.reduceNeg, Int.reduceEq, Nat.reduceMod, forall_eq_or_imp, forall_eq, forall_const, EVY, true_imp_iff, implies_true, Int.cast_ofNat_Int, forall_eq']
  first | refine qCallK_ro (p2) ?_ ?_ | refine eCallK_ro (p2) ?_ ?_
  · simp only [↓EVP0, EVQ0, EVQ1, EVQ2, EVQ3, EVQ4, EVA, EVK, EVFR, ↓reduceIte, Nat.reduceEqDiff, Nat.reduceAdd, Nat.reduceSub, Nat.reduceMul, Nat.reduceLT, Nat.reduceLeDiff, reduceCtorEq, Int.reduceToNat, Int.reduceLT, Int.reduceLE, Int.reduceAdd, Int.reduceSub, Int.reduceMul, Int.reduceNeg, Int.reduceEq, Nat.reduceMod, forall_eq_or_imp, forall_eq, forall_const, EVY, true_imp_iff, implies_true, Int.cast_ofNat_Int, forall_eq']
  simp only [↓EVP0, EVQ0, EVQ1, EVQ2, EVQ3, EVQ4, EVA, EVK, EVFR, ↓reduceIte, Nat.reduceEqDiff, Nat.reduceAdd, Nat.reduceSub, Nat.reduceMul, Nat.reduceLT, Nat.reduceLeDiff, reduceCtorEq, Int.reduceToNat, Int.reduceLT, Int.reduceLE, Int.reduceAdd, Int.reduceSub, Int.reduceMul, Int.reduceNeg, Int.reduceEq, Nat.reduceMod, forall_eq_or_imp, forall_eq, forall_const, EVY, true_imp_iff, implies_true, Int.cast_ofNat_Int, forall_eq']
  have q1 := mul_small (mag_le oA.1) (Nat.le_trans ly lb)
  have q2 := mul_small (mag_le oB.1) (Nat.le_trans lx la)
  have w1 := ev_wadd (decide (A.n < 0)) (decide (B.n < 0)) (mag A.n * (mag B.d / Nat.gcd (mag A.d) (mag B.d))) (mag B.n * (mag A.d / Nat.gcd (mag A.d) (mag B.d))) (by omega)
  have hS := addW_sg (decide (A.n < 0)) (decide (B.n < 0)) (mag A.n * (mag B.d / Nat.gcd (mag A.d) (mag B.d))) (mag B.n * (mag A.d / Nat.gcd (mag A.d) (mag B.d)))
  rw [sg_prod, sg_prod] at hS
  unfold wV at w1
  first | refine qCallK_ro (w1) ?_ ?_ | refine eCallK_ro (w1) ?_ ?_
  · simp only [↓EVP0, EVQ0, EVQ1, EVQ2, EVQ3, EVQ4, EVA, EVK, EVFR, ↓reduceIte, Nat.reduceEqDiff, Nat.reduceAdd, Nat.reduceSub, Nat.reduceMul, Nat.reduceLT, Nat.reduceLeDiff, reduceCtorEq, Int.reduceToNat, Int.reduceLT, Int.reduceLE, Int.reduceAdd, Int.reduceSub, Int.reduceMul, Int.reduceNeg, Int.reduceEq, Nat.reduceMod, forall_eq_or_imp, forall_eq, forall_const, EVY, true_imp_iff, implies_true, Int.cast_ofNat_Int, forall_eq']
  simp only [↓EVP0, EVQ0, EVQ1, EVQ2, EVQ3, EVQ4, EVA, EVK, EVFR, ↓reduceIte, Nat.reduceEqDiff, Nat.reduceAdd, Nat.reduceSub, Nat.reduceMul, Nat.reduceLT, Nat.reduceLeDiff, reduceCtorEq, Int.reduceToNat, Int.reduceLT, Int.reduceLE, Int.reduceAdd, Int.reduceSub, Int.reduceMul, Int.reduceNeg, Int.reduceEq, Nat.reduceMod, forall_eq_or_imp, forall_eq, forall_const, EVY, true_imp_iff, implies_true, Int.cast_ofNat_Int, forall_eq']
  clear w1 p1 p2
  generalize hWd : addW (decide (A.n < 0)) (mag A.n * (mag B.d / Nat.gcd (mag A.d) (mag B.d))) (decide (B.n < 0)) (mag B.n * (mag A.d / Nat.gcd (mag A.d) (mag B.d))) = W at *
  have hWl := addW_le (decide (A.n < 0)) (decide (B.n < 0)) (mag A.n * (mag B.d / Nat.gcd (mag A.d) (mag B.d))) (mag B.n * (mag A.d / Nat.gcd (mag A.d) (mag B.d)))
  rw [hWd] at hWl
  have hW : W.2 < 340282366920938463463374607431768211456 := by
    have : W.2 ≤ mag A.n * (mag B.d / Nat.gcd (mag A.d) (mag B.d)) + mag B.n * (mag A.d / Nat.gcd (mag A.d) (mag B.d)) := hWl
    omega
  have e1 : (mag A.d : Int) = A.d := by have := hA.1; unfold mag; omega
  have e2 : (mag B.d : Int) = B.d := by have := hB.1; unfold mag; omega
  have hadd : addE A B = low (A.n * (mag B.d : Int) + B.n * (mag A.d : Int)) (mag A.d * mag B.d) := by rw [e1, e2]; rfl
  rw [k3] at hadd
  rw [← hS] at hadd k2
  obtain ⟨i1, i2⟩ := sg_inv (rfl : sg W.1 W.2 = _)
  rw [i1] at hadd k2
  refine ⟨fun gz => ?_, fun gz => ?_⟩
  · have hz : W.2 = 0 := by
      rw [condF] at gz
      simp only [Bool.and_eq_true, decide_eq_true_eq] at gz
      omega
    rw [hadd, hz, Nat.zero_div]
    exact ⟨⟨rfl, rfl⟩, rfl⟩
  have hW0 : 0 < W.2 := by
    rcases Nat.eq_zero_or_pos W.2 with h | h
    · rw [h] at gz; simp at gz
    · exact h
  rw [i2 hW0] at hadd
  have d1 := ev_divide W.1 W.2 (Nat.gcd (mag A.d) (mag B.d)) hW k1 (by have := Nat.le_of_dvd pa (Nat.gcd_dvd_left (mag A.d) (mag B.d)); omega)
  unfold wV at d1
  refine callK_ro (d1) ?_ ?_
  · simp only [↓EVP0, EVQ0, EVQ1, EVQ2, EVQ3, EVQ4, EVA, EVK, EVFR, ↓reduceIte, Nat.reduceEqDiff, Nat.reduceAdd, Nat.reduceSub, Nat.reduceMul, Nat.reduceLT, Nat.reduceLeDiff, reduceCtorEq, Int.reduceToNat, Int.reduceLT, Int.reduceLE, Int.reduceAdd, Int.reduceSub, Int.reduceMul, Int.reduceNeg, Int.reduceEq, Nat.reduceMod, forall_eq_or_imp, forall_eq, forall_const, EVY, true_imp_iff, implies_true, Int.cast_ofNat_Int, forall_eq']
  simp only [↓EVP0, EVQ0, EVQ1, EVQ2, EVQ3, EVQ4, EVA, EVK, EVFR, ↓reduceIte, Nat.reduceEqDiff, Nat.reduceAdd, Nat.reduceSub, Nat.reduceMul, Nat.reduceLT, Nat.reduceLeDiff, reduceCtorEq, Int.reduceToNat, Int.reduceLT, Int.reduceLE, Int.reduceAdd, Int.reduceSub, Int.reduceMul, Int.reduceNeg, Int.reduceEq, Nat.reduceMod, forall_eq_or_imp, forall_eq, forall_const, EVY, true_imp_iff, implies_true, Int.cast_ofNat_Int, forall_eq']
  have g2 := ev_gcd (Nat.gcd (mag A.d) (mag B.d)) (W.2 % Nat.gcd (mag A.d) (mag B.d))
  have eg : Nat.gcd (Nat.gcd (mag A.d) (mag B.d)) (W.2 % Nat.gcd (mag A.d) (mag B.d)) = Nat.gcd (Nat.gcd (mag A.d) (mag B.d)) W.2 := by
    rw [Nat.gcd_comm, Nat.gcd_comm _ W.2, Nat.gcd_comm W.2, ← Nat.gcd_rec]
  rw [eg] at g2
  refine callK_ro (g2) ?_ ?_
  · simp only [↓EVP0, EVQ0, EVQ1, EVQ2, EVQ3, EVQ4, EVA, EVK, EVFR, ↓reduceIte, Nat.reduceEqDiff, Nat.reduceAdd, Nat.reduceSub, Nat.reduceMul, Nat.reduceLT, Nat.reduceLeDiff, reduceCtorEq, Int.reduceToNat, Int.reduceLT, Int.reduceLE, Int.reduceAdd, Int.reduceSub, Int.reduceMul, Int.reduceNeg, Int.reduceEq, Nat.reduceMod, forall_eq_or_imp, forall_eq, forall_const, EVY, true_imp_iff, implies_true, Int.cast_ofNat_Int, forall_eq']
  simp only [↓EVP0, EVQ0, EVQ1, EVQ2, EVQ3, EVQ4, EVA, EVK, EVFR, ↓reduceIte, Nat.reduceEqDiff, Nat.reduceAdd, Nat.reduceSub, Nat.reduceMul, Nat.reduceLT, Nat.reduceLeDiff, reduceCtorEq, Int.reduceToNat, Int.reduceLT, Int.reduceLE, Int.reduceAdd, Int.reduceSub, Int.reduceMul, Int.reduceNeg, Int.reduceEq, Nat.reduceMod, forall_eq_or_imp, forall_eq, forall_const, EVY, true_imp_iff, implies_true, Int.cast_ofNat_Int, forall_eq']
  have hle : Nat.gcd (Nat.gcd (mag A.d) (mag B.d)) W.2 ≤ mag A.d := Nat.le_trans (Nat.le_of_dvd k1 (Nat.gcd_dvd_left _ _)) (Nat.le_of_dvd pa (Nat.gcd_dvd_left (mag A.d) (mag B.d)))
  generalize hcd : Nat.gcd (Nat.gcd (mag A.d) (mag B.d)) W.2 = c at *
  have d2 := ev_divide W.1 W.2 c hW k2 (by omega)
  unfold wV at d2
  refine callK_ro (d2) ?_ ?_
  · simp only [↓EVP0, EVQ0, EVQ1, EVQ2, EVQ3, EVQ4, EVA, EVK, EVFR, ↓reduceIte, Nat.reduceEqDiff, Nat.reduceAdd, Nat.reduceSub, Nat.reduceMul, Nat.reduceLT, Nat.reduceLeDiff, reduceCtorEq, Int.reduceToNat, Int.reduceLT, Int.reduceLE, Int.reduceAdd, Int.reduceSub, Int.reduceMul, Int.reduceNeg, Int.reduceEq, Nat.reduceMod, forall_eq_or_imp, forall_eq, forall_const, EVY, true_imp_iff, implies_true, Int.cast_ofNat_Int, forall_eq']
  simp only [↓EVP0, EVQ0, EVQ1, EVQ2, EVQ3, EVQ4, EVA, EVK, EVFR, ↓reduceIte, Nat.reduceEqDiff, Nat.reduceAdd, Nat.reduceSub, Nat.reduceMul, Nat.reduceLT, Nat.reduceLeDiff, reduceCtorEq, Int.reduceToNat, Int.reduceLT, Int.reduceLE, Int.reduceAdd, Int.reduceSub, Int.reduceMul, Int.reduceNeg, Int.reduceEq, Nat.reduceMod, forall_eq_or_imp, forall_eq, forall_const, EVY, true_imp_iff, implies_true, Int.cast_ofNat_Int, forall_eq']
  refine callK_ro (s2) ?_ ?_
  · simp only [↓EVP0, EVQ0, EVQ1, EVQ2, EVQ3, EVQ4, EVA, EVK, EVFR, ↓reduceIte, Nat.reduceEqDiff, Nat.reduceAdd, Nat.reduceSub, Nat.reduceMul, Nat.reduceLT, Nat.reduceLeDiff, reduceCtorEq, Int.reduceToNat, Int.reduceLT, Int.reduceLE, Int.reduceAdd, Int.reduceSub, Int.reduceMul, Int.reduceNeg, Int.reduceEq, Nat.reduceMod, forall_eq_or_imp, forall_eq, forall_const, EVY, true_imp_iff, implies_true, Int.cast_ofNat_Int, forall_eq']
  simp only [↓EVP0, EVQ0, EVQ1, EVQ2, EVQ3, EVQ4, EVA, EVK, EVFR, ↓reduceIte, Nat.reduceEqDiff, Nat.reduceAdd, Nat.reduceSub, Nat.reduceMul, Nat.reduceLT, Nat.reduceLeDiff, reduceCtorEq, Int.reduceToNat, Int.reduceLT, Int.reduceLE, Int.reduceAdd, Int.reduceSub, Int.reduceMul, Int.reduceNeg, Int.reduceEq, Nat.reduceMod, forall_eq_or_imp, forall_eq, forall_const, EVY, true_imp_iff, implies_true, Int.cast_ofNat_Int, forall_eq']
  refine ⟨by omega, ?_⟩
  rw [← Int.ofNat_tdiv, cast_mod (Nat.lt_of_le_of_lt (Nat.div_le_self _ _) (by omega))]
  have m1 := ev_mul64 (mag A.d / Nat.gcd (mag A.d) (mag B.d)) (mag B.d / c) (by omega) (Nat.lt_of_le_of_lt (Nat.div_le_self _ _) (by omega))
  refine callK_ro (m1) ?_ ?_
  · simp only [↓EVP0, EVQ0, EVQ1, EVQ2, EVQ3, EVQ4, EVA, EVK, EVFR, ↓reduceIte, Nat.reduceEqDiff, Nat.reduceAdd, Nat.reduceSub, Nat.reduceMul, Nat.reduceLT, Nat.reduceLeDiff, reduceCtorEq, Int.reduceToNat, Int.reduceLT, Int.reduceLE, Int.reduceAdd, Int.reduceSub, Int.reduceMul, Int.reduceNeg, Int.reduceEq, Nat.reduceMod, forall_eq_or_imp, forall_eq, forall_const, EVY, true_imp_iff, implies_true, Int.cast_ofNat_Int, forall_eq']
  simp only [↓EVP0, EVQ0, EVQ1, EVQ2, EVQ3, EVQ4, EVA, EVK, EVFR, ↓reduceIte, Nat.reduceEqDiff, Nat.reduceAdd, Nat.reduceSub, Nat.reduceMul, Nat.reduceLT, Nat.reduceLeDiff, reduceCtorEq, Int.reduceToNat, Int.reduceLT, Int.reduceLE, Int.reduceAdd, Int.reduceSub, Int.reduceMul, Int.reduceNeg, Int.reduceEq, Nat.reduceMod, forall_eq_or_imp, forall_eq, forall_const, EVY, true_imp_iff, implies_true, Int.cast_ofNat_Int, forall_eq']
  have r1 := ev_result W.1 (W.2 / c) (mag A.d / Nat.gcd (mag A.d) (mag B.d) * (mag B.d / c))
  unfold wV rrV ratV at r1
  rw [hadd]
  refine callK_ro (r1) ?_ ?_
  · simp only [↓EVP0, EVQ0, EVQ1, EVQ2, EVQ3, EVQ4, EVA, EVK, EVFR, ↓reduceIte, Nat.reduceEqDiff, Nat.reduceAdd, Nat.reduceSub, Nat.reduceMul, Nat.reduceLT, Nat.reduceLeDiff, reduceCtorEq, Int.reduceToNat, Int.reduceLT, Int.reduceLE, Int.reduceAdd, Int.reduceSub, Int.reduceMul, Int.reduceNeg, Int.reduceEq, Nat.reduceMod, forall_eq_or_imp, forall_eq, forall_const, EVY, true_imp_iff, implies_true, Int.cast_ofNat_Int, forall_eq']
  simp only [↓EVP0, EVQ0, EVQ1, EVQ2, EVQ3, EVQ4, EVA, EVK, EVFR, ↓reduceIte, Nat.reduceEqDiff, Nat.reduceAdd, Nat.reduceSub, Nat.reduceMul, Nat.reduceLT, Nat.reduceLeDiff, reduceCtorEq, Int.reduceToNat, Int.reduceLT, Int.reduceLE, Int.reduceAdd, Int.reduceSub, Int.reduceMul, Int.reduceNeg, Int.reduceEq, Nat.reduceMod, forall_eq_or_imp, forall_eq, forall_const, EVY, true_imp_iff, implies_true, Int.cast_ofNat_Int, forall_eq']
end Go.Proofs.YtdfiicpikcdokaaGreatDoor
namespace Go.Proofs.YtdfiicpikcdokaaGreatDoor
set_option linter.unusedSimpArgs false
set_option linter.unusedVariables false
open Go.RowKit
set_option maxRecDepth 20000

theorem vld_bnd {b : Rt} (h : vldR b = true) : -1152921504606846976 ≤ b.n ∧ b.n ≤ 1152921504606846976 ∧ 0 ≤ b.d ∧ b.d ≤ 1152921504606846976 := by
  unfold vldR at h
  simp only [Bool.or_eq_true, Bool.and_eq_true, decide_eq_true_eq] at h
  omega
end Go.Proofs.YtdfiicpikcdokaaGreatDoor
namespace Go.Proofs.YtdfiicpikcdokaaGreatDoor
set_option linter.unusedSimpArgs false
set_option linter.unusedVariables false
open Go.RowKit
set_option maxRecDepth 20000

def cmpI (x y : Int) : Int := if x < y then -1 else if x = y then 0 else 1
def cmpE (a b : Rt) : Int := cmpI (a.n * b.d) (b.n * a.d)
def cmpR (a b : Rt) : Int := if vldR a = true ∧ vldR b = true then cmpE (nrmR a) (nrmR b) else 0
theorem cmpN_I (m k : Nat) : cmpN m k = cmpI m k := by
  unfold cmpN cmpI
  by_cases h : m < k
  · rw [decide_eq_true h, if_pos (by omega)]; rfl
  · rw [decide_eq_false h, if_neg (by omega)]
    by_cases h2 : m = k
    · rw [decide_eq_true h2, if_pos (by omega)]; rfl
    · rw [decide_eq_false h2, if_neg (by omega)]; rfl
theorem sg_both {s t : Bool} {m k : Nat} (hs : s = true) (ht : t = true) : cmpI (sg s m) (sg t k) = cmpI k m := by
  subst hs ht
  unfold cmpI sg
  simp only [cond_true]
  rcases Nat.lt_trichotomy k m with h | h | h
  · rw [if_pos (by omega), if_pos (by omega)]
  · rw [if_neg (by omega), if_pos (by omega), if_neg (by omega), if_pos (by omega)]
  · rw [if_neg (by omega), if_neg (by omega), if_neg (by omega), if_neg (by omega)]
theorem ev_cmp (a b : Rt) (ha : RtOk a) (hb : RtOk b) : Ev Tryz.prog 21 [ratV a, ratV b] (.sc (.int .i64 (cmpR a b))) := by
  have v1 := ev_valid a ha
  have v2 := ev_valid b hb
  unfold ratV at *
  refine ev_fn Tryz.func21 comp21 (show 2 ≤ Tryz.f21.ntmps by decide) ?_; unfold cf21 rf21; simp only [↓EVP0, EVQ0, EVQ1, EVQ2, EVQ3, EVQ4, EVA, EVK, EVFR, ↓reduceIte, Nat.reduceEqDiff, Nat.reduceAdd, Nat.reduceSub, Nat.reduceMul, Nat.reduceLT, Nat.reduceLeDiff, reduceCtorEq, Int.reduceToNat, Int.reduceLT, Int.reduceLE, Int.reduceAdd, Int.reduceSub, Int.reduceMul, Int.reduceNeg, Int.reduceEq, Nat.reduceMod, forall_eq_or_imp, forall_eq, forall_const, EVY, true_imp_iff, implies_true, Int.cast_ofNat_Int, forall_eq']
  refine callK_ro (v1) ?_ ?_
  · simp only [↓EVP0, EVQ0, EVQ1, EVQ2, EVQ3, EVQ4, EVA, EVK, EVFR, ↓reduceIte, Nat.reduceEqDiff, Nat.reduceAdd, Nat.reduceSub, Nat.reduceMul, Nat.reduceLT, Nat.reduceLeDiff, reduceCtorEq, Int.reduceToNat, Int.reduceLT, Int.reduceLE, Int.reduceAdd, Int.reduceSub, Int.reduceMul, Int.reduceNeg, Int.reduceEq, Nat.reduceMod, forall_eq_or_imp, forall_eq, forall_const, EVY, true_imp_iff, implies_true, Int.cast_ofNat_Int, forall_eq']
  simp only [↓EVP0, EVQ0, EVQ1, EVQ2, EVQ3, EVQ4, EVA, EVK, EVFR, ↓reduceIte, Nat.reduceEqDiff, Nat.reduceAdd, Nat.reduceSub, Nat.reduceMul, Nat.reduceLT, Nat.reduceLeDiff, reduceCtorEq, Int.reduceToNat, Int.reduceLT, Int.reduceLE, Int.reduceAdd, Int.reduceSub, Int.reduceMul, Int.reduceNeg, Int.reduceEq, Nat.reduceMod, forall_eq_or_imp, forall_eq, forall_const, EVY, true_imp_iff, implies_true, Int.cast_ofNat_Int, forall_eq']
  (refine lops_ge_imp ?_; simp only [↓EVP0, EVQ0, EVQ1, EVQ2, EVQ3, EVQ4, EVA, EVK, EVFR, ↓reduceIte, Nat.reduceEqDiff, Nat.reduceAdd, Nat.reduceSub, Nat.reduceMul, Nat.reduceLT, Nat.reduceLeDiff, reduceCtorEq, Int.reduceToNat, Int.reduceLT, Int.reduceLE, Int.reduceAdd, Int.reduceSub, Int.reduceMul, Int.reduceNeg, Int.reduceEq, Nat.reduceMod, forall_eq_or_imp, forall_eq, forall_const, EVY, true_imp_iff, implies_true, Int.cast_ofNat_Int, forall_eq'])
  refine gCallK_ro _ (fun _ => v2) (fun _ => ?_) ?_
  · simp only [↓EVP0, EVQ0, EVQ1, EVQ2, EVQ3, EVQ4, EVA, EVK, EVFR, ↓reduceIte, Nat.reduceEqDiff, Nat.reduceAdd, Nat.reduceSub, Nat.reduceMul, Nat.reduceLT, Nat.reduceLeDiff, reduceCtorEq, Int.reduceToNat, Int.reduceLT, Int.reduceLE, Int.reduceAdd, Int.reduceSub, Int.reduceMul, Int.reduceNeg, Int.reduceEq, Nat.reduceMod, forall_eq_or_imp, forall_eq, forall_const, EVY, true_imp_iff, implies_true, Int.cast_ofNat_Int, forall_eq']
  simp only [↓EVP0, EVQ0, EVQ1, EVQ2, EVQ3, EVQ4, EVA, EVK, EVFR, ↓reduceIte, Nat.reduceEqDiff, Nat.reduceAdd, Nat.reduceSub, Nat.reduceMul, Nat.reduceLT, Nat.reduceLeDiff, reduceCtorEq, Int.reduceToNat, Int.reduceLT, Int.reduceLE, Int.reduceAdd, Int.reduceSub, Int.reduceMul, Int.reduceNeg, Int.reduceEq, Nat.reduceMod, forall_eq_or_imp, forall_eq, forall_const, EVY, true_imp_iff, implies_true, Int.cast_ofNat_Int, forall_eq']
  rw [nv_cond]
  unfold cmpR
  refine ⟨fun g => ?_, fun g => ?_⟩
  · rw [if_neg (by intro h8; rw [decide_eq_true h8] at g; simp at g)]
  have hv : vldR a = true ∧ vldR b = true := by simpa using g
  rw [if_pos hv]
  have n1 := ev_normal a
  have n2 := ev_normal b
  unfold ratV at n1 n2
  first | refine qCallK_ro (n1) ?_ ?_ | refine eCallK_ro (n1) ?_ ?_
  · simp only [↓EVP0, EVQ0, EVQ1, EVQ2, EVQ3, EVQ4, EVA, EVK, EVFR, ↓reduceIte, Nat.reduceEqDiff, Nat.reduceAdd, Nat.reduceSub, Nat.reduceMul, Nat.reduceLT, Nat.reduceLeDiff, reduceCtorEq, Int.reduceToNat, Int.reduceLT, Int.reduceLE, Int.reduceAdd, Int.reduceSub, Int.reduceMul, Int.reduceNeg, Int.reduceEq, Nat.reduceMod, forall_eq_or_imp, forall_eq, forall_const, EVY, true_imp_iff, implies_true, Int.cast_ofNat_Int, forall_eq']
  simp only [↓EVP0, EVQ0, EVQ1, EVQ2, EVQ3, EVQ4, EVA, EVK, EVFR, ↓reduceIte, Nat.reduceEqDiff, Nat.reduceAdd, Nat.reduceSub, Nat.reduceMul, Nat.reduceLT, Nat.reduceLeDiff, reduceCtorEq, Int.reduceToNat, Int.reduceLT, Int.reduceLE, Int.reduceAdd, Int.reduceSub, Int.reduceMul, Int.reduceNeg, Int.reduceEq, Nat.reduceMod, forall_eq_or_imp, forall_eq, forall_const, EVY, true_imp_iff, implies_true, Int.cast_ofNat_Int, forall_eq']
  first | refine qCallK_ro (n2) ?_ ?_ | refine eCallK_ro (n2) ?_ ?_
  · simp only [↓EVP0, EVQ0, EVQ1, EVQ2, EVQ3, EVQ4, EVA, EVK, EVFR, ↓reduceIte, Nat.reduceEqDiff, Nat.reduceAdd, Nat.reduceSub, Nat.reduceMul, Nat.reduceLT, Nat.reduceLeDiff, reduceCtorEq, Int.reduceToNat, Int.reduceLT, Int.reduceLE, Int.reduceAdd, Int.reduceSub, Int.reduceMul, Int.reduceNeg, Int.reduceEq, Nat.reduceMod, forall_eq_or_imp, forall_eq, forall_const, EVY, true_imp_iff, implies_true, Int.cast_ofNat_Int, forall_eq']
  simp only [↓EVP0, EVQ0, EVQ1, EVQ2, EVQ3, EVQ4, EVA, EVK, EVFR, ↓reduceIte, Nat.reduceEqDiff, Nat.reduceAdd, Nat.reduceSub, Nat.reduceMul, Nat.reduceLT, Nat.reduceLeDiff, reduceCtorEq, Int.reduceToNat, Int.reduceLT, Int.reduceLE, Int.reduceAdd, Int.reduceSub, Int.reduceMul, Int.reduceNeg, Int.reduceEq, Nat.reduceMod, forall_eq_or_imp, forall_eq, forall_const, EVY, true_imp_iff, implies_true, Int.cast_ofNat_Int, forall_eq']
  have hA := vld_low hv.1
  have hB := vld_low hv.2
  have oA := nrm_ok ha
  have oB := nrm_ok hb
  generalize nrmR a = A at *
  generalize nrmR b = B at *
  have l1 := mag_le oA.1
  have l2 := mag_le oA.2
  have l3 := mag_le oB.1
  have l4 := mag_le oB.2
  have s2 := ev_size A.d oA.2
  have s4 := ev_size B.d oB.2
  have p1 := ev_product A.n (mag B.d) oA.1 (by omega)
  have p2 := ev_product B.n (mag A.d) oB.1 (by omega)
  have w1 := ev_wcmp (decide (A.n < 0)) (decide (B.n < 0)) (mag A.n * mag B.d) (mag B.n * mag A.d)
  have w2 := ev_wcmp (decide (B.n < 0)) (decide (A.n < 0)) (mag B.n * mag A.d) (mag A.n * mag B.d)
  unfold wV at p1 p2 w1 w2
  first | refine qCallK_ro (s4) ?_ ?_ | refine eCallK_ro (s4) ?_ ?_
  · simp only [↓EVP0, EVQ0, EVQ1, EVQ2, EVQ3, EVQ4, EVA, EVK, EVFR, ↓reduceIte, Nat.reduceEqDiff, Nat.reduceAdd, Nat.reduceSub, Nat.reduceMul, Nat.reduceLT, Nat.reduceLeDiff, reduceCtorEq, Int.reduceToNat, Int.reduceLT, Int.reduceLE, Int.reduceAdd, Int.reduceSub, Int.reduceMul, Int.reduceNeg, Int.reduceEq, Nat.reduceMod, forall_eq_or_imp, forall_eq, forall_const, EVY, true_imp_iff, implies_true, Int.cast_ofNat_Int, forall_eq']
  simp only [↓EVP0, EVQ0, EVQ1, EVQ2, EVQ3, EVQ4, EVA, EVK, EVFR, ↓reduceIte, Nat.reduceEqDiff, Nat.reduceAdd, Nat.reduceSub, Nat.reduceMul, Nat.reduceLT, Nat.reduceLeDiff, reduceCtorEq, Int.reduceToNat, Int.reduceLT, Int.reduceLE, Int.reduceAdd, Int.reduceSub, Int.reduceMul, Int.reduceNeg, Int.reduceEq, Nat.reduceMod, forall_eq_or_imp, forall_eq, forall_const, EVY, true_imp_iff, implies_true, Int.cast_ofNat_Int, forall_eq']
  first | refine qCallK_ro (p1) ?_ ?_ | refine eCallK_ro (p1) ?_ ?_
  · simp only [↓EVP0, EVQ0, EVQ1, EVQ2, EVQ3, EVQ4, EVA, EVK, EVFR, ↓reduceIte, Nat.reduceEqDiff, Nat.reduceAdd, Nat.reduceSub, Nat.reduceMul, Nat.reduceLT, Nat.reduceLeDiff, reduceCtorEq, Int.reduceToNat, Int.reduceLT, Int.reduceLE, Int.reduceAdd, Int.reduceSub, Int.reduceMul, Int.reduceNeg, Int.reduceEq, Nat.reduceMod, forall_eq_or_imp, forall_eq, forall_const, EVY, true_imp_iff, implies_true, Int.cast_ofNat_Int, forall_eq']
  simp only [↓EVP0, EVQ0, EVQ1, EVQ2, EVQ3, EVQ4, EVA, EVK, EVFR, ↓reduceIte, Nat.reduceEqDiff, Nat.reduceAdd, Nat.reduceSub, Nat.reduceMul, Nat.reduceLT, Nat.reduceLeDiff, reduceCtorEq, Int.reduceToNat, Int.reduceLT, Int.reduceLE, Int.reduceAdd, Int.reduceSub, Int.reduceMul, Int.reduceNeg, Int.reduceEq, Nat.reduceMod, forall_eq_or_imp, forall_eq, forall_const, EVY, true_imp_iff, implies_true, Int.cast_ofNat_Int, forall_eq']
  first | refine qCallK_ro (s2) ?_ ?_ | refine eCallK_ro (s2) ?_ ?_
  · simp only [↓EVP0, EVQ0, EVQ1, EVQ2, EVQ3, EVQ4, EVA, EVK, EVFR, ↓reduceIte, Nat.reduceEqDiff, Nat.reduceAdd, Nat.reduceSub, Nat.reduceMul, Nat.reduceLT, Nat.reduceLeDiff, reduceCtorEq, Int.reduceToNat, Int.reduceLT, Int.reduceLE, Int.reduceAdd, Int.reduceSub, Int.reduceMul, Int.reduceNeg, Int.reduceEq, Nat.reduceMod, forall_eq_or_imp, forall_eq, forall_const, EVY, true_imp_iff, implies_true, Int.cast_ofNat_Int, forall_eq']
  simp only [↓EVP0, EVQ0, EVQ1, EVQ2, EVQ3, EVQ4, EVA, EVK, EVFR, ↓reduceIte, Nat.reduceEqDiff, Nat.reduceAdd, Nat.reduceSub, Nat.reduceMul, Nat.reduceLT, Nat.reduceLeDiff, reduceCtorEq, Int.reduceToNat, Int.reduceLT, Int.reduceLE, Int.reduceAdd, Int.reduceSub, Int.reduceMul, Int.reduceNeg, Int.reduceEq, Nat.reduceMod, forall_eq_or_imp, forall_eq, forall_const, EVY, true_imp_iff, implies_true, Int.cast_ofNat_Int, forall_eq']
  first | refine qCallK_ro (p2) ?_ ?_ | refine eCallK_ro (p2) ?_ ?_
  · simp only [↓EVP0, EVQ0, EVQ1, EVQ2, EVQ3, EVQ4, EVA, EVK, EVFR, ↓reduceIte, Nat.reduceEqDiff, Nat.reduceAdd, Nat.reduceSub, Nat.reduceMul, Nat.reduceLT, Nat.reduceLeDiff, reduceCtorEq, Int.reduceToNat, Int.reduceLT, Int.reduceLE, Int.reduceAdd, Int.reduceSub, Int.reduceMul, Int.reduceNeg, Int.reduceEq, Nat.reduceMod, forall_eq_or_imp, forall_eq, forall_const, EVY, true_imp_iff, implies_true, Int.cast_ofNat_Int, forall_eq']
  simp only [↓EVP0, EVQ0, EVQ1, EVQ2, EVQ3, EVQ4, EVA, EVK, EVFR, ↓reduceIte, Nat.reduceEqDiff, Nat.reduceAdd, Nat.reduceSub, Nat.reduceMul, Nat.reduceLT, Nat.reduceLeDiff, reduceCtorEq, Int.reduceToNat, Int.reduceLT, Int.reduceLE, Int.reduceAdd, Int.reduceSub, Int.reduceMul, Int.reduceNeg, Int.reduceEq, Nat.reduceMod, forall_eq_or_imp, forall_eq, forall_const, EVY, true_imp_iff, implies_true, Int.cast_ofNat_Int, forall_eq']
  have e1 : A.n * B.d = sg (decide (A.n < 0)) (mag A.n * mag B.d) := by rw [sg_prod]; have := hB.1; unfold mag; congr 1; omega
  have e2 : B.n * A.d = sg (decide (B.n < 0)) (mag B.n * mag A.d) := by rw [sg_prod]; have := hA.1; unfold mag; congr 1; omega
  have z1 : A.n < 0 → 0 < mag A.n * mag B.d := fun h => Nat.mul_pos (by unfold mag; omega) (by have := hB.1; unfold mag; omega)
  have z2 : B.n < 0 → 0 < mag B.n * mag A.d := fun h => Nat.mul_pos (by unfold mag; omega) (by have := hA.1; unfold mag; omega)
  have ec : cmpE A B = cmpI (sg (decide (A.n < 0)) (mag A.n * mag B.d)) (sg (decide (B.n < 0)) (mag B.n * mag A.d)) := by unfold cmpE; rw [e1, e2]
  rw [ec]
  clear ec e1 e2 p1 p2 s2 s4 n1 n2 v1 v2
  generalize mag A.n * mag B.d = m at *
  generalize mag B.n * mag A.d = k at *
  rw [cmpN_I] at w1 w2
  refine ⟨?_, ?_⟩
  all_goals
    rw [condF]
    refine ⟨fun h1 => ?_, fun h1 => ⟨fun h2 => ?_, fun h2 => ⟨fun h3 => ?_, fun h3 => ?_⟩⟩⟩
    · simp only [Bool.and_eq_true] at h1
      have q := sg_both h1.1 h1.2 (m := m) (k := k)
      rw [q]
      refine callK_ro (w2) ?_ ?_
      · simp only [↓EVP0, EVQ0, EVQ1, EVQ2, EVQ3, EVQ4, EVA, EVK, EVFR, ↓reduceIte, Nat.reduceEqDiff, Nat.reduceAdd, Nat.reduceSub, Nat.reduceMul, Nat.reduceLT, Nat.reduceLeDiff, reduceCtorEq, Int.reduceToNat, Int.reduceLT, Int.reduceLE, Int.reduceAdd, Int.reduceSub, Int.reduceMul, Int.reduceNeg, Int.reduceEq, Nat.reduceMod, forall_eq_or_imp, forall_eq, forall_const, EVY, true_imp_iff, implies_true, Int.cast_ofNat_Int, forall_eq']
      simp only [↓EVP0, EVQ0, EVQ1, EVQ2, EVQ3, EVQ4, EVA, EVK, EVFR, ↓reduceIte, Nat.reduceEqDiff, Nat.reduceAdd, Nat.reduceSub, Nat.reduceMul, Nat.reduceLT, Nat.reduceLeDiff, reduceCtorEq, Int.reduceToNat, Int.reduceLT, Int.reduceLE, Int.reduceAdd, Int.reduceSub, Int.reduceMul, Int.reduceNeg, Int.reduceEq, Nat.reduceMod, forall_eq_or_imp, forall_eq, forall_const, EVY, true_imp_iff, implies_true, Int.cast_ofNat_Int, forall_eq']
    · have h4 : decide (B.n < 0) = false := by rw [h2] at h1; simpa using h1
      rw [h2, h4]
      have := z1 (of_decide_eq_true h2)
      unfold cmpI sg
      simp only [cond_true, cond_false]
      rw [if_pos (by omega)]
    · rw [h2, h3]
      have := z2 (of_decide_eq_true h3)
      unfold cmpI sg
      simp only [cond_true, cond_false]
      rw [if_neg (by omega), if_neg (by omega)]
    · have q : cmpI (sg (decide (A.n < 0)) m) (sg (decide (B.n < 0)) k) = cmpI m k := by rw [h2, h3]; rfl
      rw [q]
      refine callK_ro (w1) ?_ ?_
      · simp only [↓EVP0, EVQ0, EVQ1, EVQ2, EVQ3, EVQ4, EVA, EVK, EVFR, ↓reduceIte, Nat.reduceEqDiff, Nat.reduceAdd, Nat.reduceSub, Nat.reduceMul, Nat.reduceLT, Nat.reduceLeDiff, reduceCtorEq, Int.reduceToNat, Int.reduceLT, Int.reduceLE, Int.reduceAdd, Int.reduceSub, Int.reduceMul, Int.reduceNeg, Int.reduceEq, Nat.reduceMod, forall_eq_or_imp, forall_eq, forall_const, EVY, true_imp_iff, implies_true, Int.cast_ofNat_Int, forall_eq']
      simp only [↓EVP0, EVQ0, EVQ1, EVQ2, EVQ3, EVQ4, EVA, EVK, EVFR, ↓reduceIte, Nat.reduceEqDiff, Nat.reduceAdd, Nat.reduceSub, Nat.reduceMul, Nat.reduceLT, Nat.reduceLeDiff, reduceCtorEq, Int.reduceToNat, Int.reduceLT, Int.reduceLE, Int.reduceAdd, Int.reduceSub, Int.reduceMul, Int.reduceNeg, Int.reduceEq, Nat.reduceMod, forall_eq_or_imp, forall_eq, forall_const, EVY, true_imp_iff, implies_true, Int.cast_ofNat_Int, forall_eq']
theorem addR_okRt (a b : Rt) : RtOk (addR a b).1 := by
  unfold addR
  split
  · rcases low_ok (x := (nrmR a).n * (nrmR b).d + (nrmR b).n * (nrmR a).d) (y := (nrmR a).d.natAbs * (nrmR b).d.natAbs) (Nat.mul_pos (by rename_i h; have := (vld_low h.1).1; omega) (by rename_i h; have := (vld_low h.2).1; omega)) with ⟨_, h, _⟩ | h
    · unfold Low at h; unfold RtOk In64 addE; omega
    · unfold addE; rw [h]; unfold RtOk In64; simp
  · unfold RtOk In64; simp
end Go.Proofs.YtdfiicpikcdokaaGreatDoor
namespace Go.Proofs.YtdfiicpikcdokaaGreatDoor
set_option linter.unusedSimpArgs false
set_option linter.unusedVariables false
open Go.RowKit
set_option maxRecDepth 20000

theorem strB_app (a b : By) : strB a ++ strB b = strB (a ++ b) := by
  apply ByteArray.ext
  simp [strB]
def txtQ (r : Rt) : By := if vldR r = true then (if 1 < r.d then Lib.itoa r.n ++ 47 :: Lib.itoa r.d else Lib.itoa r.n) else []
theorem itoa_le {n : Int} (h : In64 n) : (Lib.itoa n).length ≤ 21 := Lib.itoa_length_le n h.1 h.2
theorem ev_textQ (r : Rt) (hr : RtOk r) : Ev Tryz.prog 17 [ratV r] (.sc (.string (strB (txtQ r)))) := by
  have hv := ev_valid r hr
  have h1 := ev_itoaA r.n hr.1
  have h2 := ev_itoaA r.d hr.2
  unfold ratV at *
  refine ev_fn Tryz.func17 comp17 (show 1 ≤ Tryz.f17.ntmps by decide) ?_; unfold cf17 rf17; simp only [↓EVP0, EVQ0, EVQ1, EVQ2, EVQ3, EVQ4, EVA, EVK, EVFR, ↓reduceIte, Nat.reduceEqDiff, Nat.reduceAdd, Nat.reduceSub, Nat.reduceMul, Nat.reduceLT, Nat.reduceLeDiff, reduceCtorEq, Int.reduceToNat, Int.reduceLT, Int.reduceLE, Int.reduceAdd, Int.reduceSub, Int.reduceMul, Int.reduceNeg, Int.reduceEq, Nat.reduceMod, forall_eq_or_imp, forall_eq, forall_const, EVY, true_imp_iff, implies_true, Int.cast_ofNat_Int, forall_eq']
  refine callK_ro (hv) ?_ ?_
  · simp only [↓EVP0, EVQ0, EVQ1, EVQ2, EVQ3, EVQ4, EVA, EVK, EVFR, ↓reduceIte, Nat.reduceEqDiff, Nat.reduceAdd, Nat.reduceSub, Nat.reduceMul, Nat.reduceLT, Nat.reduceLeDiff, reduceCtorEq, Int.reduceToNat, Int.reduceLT, Int.reduceLE, Int.reduceAdd, Int.reduceSub, Int.reduceMul, Int.reduceNeg, Int.reduceEq, Nat.reduceMod, forall_eq_or_imp, forall_eq, forall_const, EVY, true_imp_iff, implies_true, Int.cast_ofNat_Int, forall_eq']
  simp only [↓EVP0, EVQ0, EVQ1, EVQ2, EVQ3, EVQ4, EVA, EVK, EVFR, ↓reduceIte, Nat.reduceEqDiff, Nat.reduceAdd, Nat.reduceSub, Nat.reduceMul, Nat.reduceLT, Nat.reduceLeDiff, reduceCtorEq, Int.reduceToNat, Int.reduceLT, Int.reduceLE, Int.reduceAdd, Int.reduceSub, Int.reduceMul, Int.reduceNeg, Int.reduceEq, Nat.reduceMod, forall_eq_or_imp, forall_eq, forall_const, EVY, true_imp_iff, implies_true, Int.cast_ofNat_Int, forall_eq']
  unfold txtQ
  refine ⟨fun h => ?_, fun h => ?_⟩
  · rw [if_neg (by simpa using h)]; rfl
  rw [if_pos (by simpa using h)]
  refine callK_ro (h1) ?_ ?_
  · simp only [↓EVP0, EVQ0, EVQ1, EVQ2, EVQ3, EVQ4, EVA, EVK, EVFR, ↓reduceIte, Nat.reduceEqDiff, Nat.reduceAdd, Nat.reduceSub, Nat.reduceMul, Nat.reduceLT, Nat.reduceLeDiff, reduceCtorEq, Int.reduceToNat, Int.reduceLT, Int.reduceLE, Int.reduceAdd, Int.reduceSub, Int.reduceMul, Int.reduceNeg, Int.reduceEq, Nat.reduceMod, forall_eq_or_imp, forall_eq, forall_const, EVY, true_imp_iff, implies_true, Int.cast_ofNat_Int, forall_eq']
  simp only [↓EVP0, EVQ0, EVQ1, EVQ2, EVQ3, EVQ4, EVA, EVK, EVFR, ↓reduceIte, Nat.reduceEqDiff, Nat.reduceAdd, Nat.reduceSub, Nat.reduceMul, Nat.reduceLT, Nat.reduceLeDiff, reduceCtorEq, Int.reduceToNat, Int.reduceLT, Int.reduceLE, Int.reduceAdd, Int.reduceSub, Int.reduceMul, Int.reduceNeg, Int.reduceEq, Nat.reduceMod, forall_eq_or_imp, forall_eq, forall_const, EVY, true_imp_iff, implies_true, Int.cast_ofNat_Int, forall_eq']
  refine ⟨fun h => ?_, fun h => ?_⟩
  · refine callK_ro (h2) ?_ ?_
    · simp only [↓EVP0, EVQ0, EVQ1, EVQ2, EVQ3, EVQ4, EVA, EVK, EVFR, ↓reduceIte, Nat.reduceEqDiff, Nat.reduceAdd, Nat.reduceSub, Nat.reduceMul, Nat.reduceLT, Nat.reduceLeDiff, reduceCtorEq, Int.reduceToNat, Int.reduceLT, Int.reduceLE, Int.reduceAdd, Int.reduceSub, Int.reduceMul, Int.reduceNeg, Int.reduceEq, Nat.reduceMod, forall_eq_or_imp, forall_eq, forall_const, EVY, true_imp_iff, implies_true, Int.cast_ofNat_Int, forall_eq']
    simp only [↓EVP0, EVQ0, EVQ1, EVQ2, EVQ3, EVQ4, EVA, EVK, EVFR, ↓reduceIte, Nat.reduceEqDiff, Nat.reduceAdd, Nat.reduceSub, Nat.reduceMul, Nat.reduceLT, Nat.reduceLeDiff, reduceCtorEq, Int.reduceToNat, Int.reduceLT, Int.reduceLE, Int.reduceAdd, Int.reduceSub, Int.reduceMul, Int.reduceNeg, Int.reduceEq, Nat.reduceMod, forall_eq_or_imp, forall_eq, forall_const, EVY, true_imp_iff, implies_true, Int.cast_ofNat_Int, forall_eq']
    have k1 := itoa_le hr.1
    have k2 := itoa_le hr.2
    have c1 : (⟨#[47]⟩ : ByteArray) = strB [47] := rfl
    have c2 : (⟨(Lib.itoa r.n).toArray⟩ : ByteArray) = strB (Lib.itoa r.n) := rfl
    have c3 : (⟨(Lib.itoa r.d).toArray⟩ : ByteArray) = strB (Lib.itoa r.d) := rfl
    rw [c1, c2, c3, if_pos (by have := of_decide_eq_true h; omega)]
    simp only [strB_app, strB_size, List.length_append, List.length_singleton]
    exact ⟨by omega, by omega, rfl⟩
  · rw [if_neg (by have := of_decide_eq_false h; omega)]; rfl
theorem atoi_bnd (l : By) : In64 (atoiN l) := by
  unfold atoiN In64
  cases h : Lib.atoiAll l with
  | ok v => have := Lib.atoiAll_bounds h; omega
  | range => have := Lib.atoiSat_bounds l; omega
  | _ => simp
def finQ (s : By) (r : Rt) : Rt × Int := if vldR r = true ∧ txtQ r = s then (r, 0) else (⟨0, 0⟩, 3)
def prsQ (s : By) : Rt × Int := if atoiB (cutE 47 s).1 = true then (if (cutE 47 s).2.2 = true then (if atoiB (cutE 47 s).2.1 = true then finQ s ⟨atoiN (cutE 47 s).1, atoiN (cutE 47 s).2.1⟩ else (⟨0, 0⟩, 3)) else finQ s ⟨atoiN (cutE 47 s).1, 1⟩) else (⟨0, 0⟩, 3)
theorem atoi_of {n : Int} (h : In64 n) : atoiB (Lib.itoa n) = true ∧ atoiN (Lib.itoa n) = n := by
  have := atoi_it h
  unfold atoiB atoiN
  rw [this]; exact ⟨rfl, rfl⟩
theorem prs_txt {r : Rt} (hr : RtOk r) (hv : vldR r = true) (hd : 1 ≤ r.d) : prsQ (txtQ r) = (r, 0) := by
  obtain ⟨a1, a2⟩ := atoi_of hr.1
  obtain ⟨b1, b2⟩ := atoi_of hr.2
  have hf : finQ (txtQ r) r = (r, 0) := by unfold finQ; rw [if_pos ⟨hv, rfl⟩]
  by_cases e : 1 < r.d
  · have ht : txtQ r = Lib.itoa r.n ++ 47 :: Lib.itoa r.d := by unfold txtQ; rw [if_pos hv, if_pos e]
    have hc : cutE 47 (txtQ r) = (Lib.itoa r.n, Lib.itoa r.d, true) := by rw [ht]; exact cutS it_slash
    unfold prsQ
    rw [hc]
    simp only
    rw [a1, b1, a2, b2]
    simp only [if_true]
    exact hf
  · have ht : txtQ r = Lib.itoa r.n := by unfold txtQ; rw [if_pos hv, if_neg e]
    have hc : cutE 47 (txtQ r) = (Lib.itoa r.n, [], false) := by rw [ht]; exact cutN it_slash
    have h1 : r = ⟨r.n, 1⟩ := by
      obtain ⟨n, d⟩ := r
      simp only at hd e ⊢
      have : d = 1 := by omega
      rw [this]
    unfold prsQ
    rw [hc]
    simp only
    rw [a1, a2]
    simp only [if_true, Bool.false_eq_true, if_false]
    rw [← h1]
    exact hf
theorem fin_cases (s : By) (r : Rt) : (finQ s r = (r, 0) ∧ vldR r = true ∧ txtQ r = s) ∨ finQ s r = (⟨0, 0⟩, 3) := by
  unfold finQ
  by_cases h : vldR r = true ∧ txtQ r = s
  · rw [if_pos h]; exact .inl ⟨rfl, h⟩
  · rw [if_neg h]; exact .inr rfl
theorem prs_cases (s : By) : (∃ r, prsQ s = (r, 0) ∧ vldR r = true ∧ txtQ r = s ∧ 1 ≤ r.d) ∨ prsQ s = (⟨0, 0⟩, 3) := by
  unfold prsQ
  by_cases h1 : atoiB (cutE 47 s).1 = true
  · rw [if_pos h1]
    by_cases h2 : (cutE 47 s).2.2 = true
    · rw [if_pos h2]
      by_cases h3 : atoiB (cutE 47 s).2.1 = true
      · rw [if_pos h3]
        rcases fin_cases s ⟨atoiN (cutE 47 s).1, atoiN (cutE 47 s).2.1⟩ with ⟨g1, g2, g3⟩ | g
        · refine .inl ⟨_, g1, g2, g3, ?_⟩
          by_cases e : 1 < (⟨atoiN (cutE 47 s).1, atoiN (cutE 47 s).2.1⟩ : Rt).d
          · omega
          · exfalso
            have hj := cutJ 47 s h2
            unfold txtQ at g3
            rw [if_pos g2, if_neg e] at g3
            have hm : (47 : UInt8) ∈ s := by rw [hj]; simp
            rw [← g3] at hm
            exact it_slash 47 hm rfl
        · exact .inr g
      · rw [if_neg h3]; exact .inr rfl
    · rw [if_neg h2]
      rcases fin_cases s ⟨atoiN (cutE 47 s).1, 1⟩ with ⟨g1, g2, g3⟩ | g
      · exact .inl ⟨_, g1, g2, g3, Int.le_refl _⟩
      · exact .inr g
  · rw [if_neg h1]; exact .inr rfl
theorem ev_parseQ (s : By) (hs : s.length ≤ 100000) : Ev Tryz.prog 46 [.sc (.string (strB s))] (.tup [ratV (prsQ s).1, .sc (.int .i64 (prsQ s).2)]) := by
  have h1 := ev_cut s 47 (by omega)
  have h2 := fun l (hl : l.length ≤ 100000) => ev_atoi (strB l) (by rw [strB_size]; omega)
  have h3 := fun r hr => ev_valid r hr
  have h4 := fun r hr => ev_textQ r hr
  unfold ratV at *
  refine ev_fn Tryz.func46 comp46 (show 1 ≤ Tryz.f46.ntmps by decide) ?_; unfold cf46 rf46; simp only [↓EVP0, EVQ0, EVQ1, EVQ2, EVQ3, EVQ4, EVA, EVK, EVFR, ↓reduceIte, Nat.reduceEqDiff, Nat.reduceAdd, Nat.reduceSub, Nat.reduceMul, Nat.reduceLT, Nat.reduceLeDiff, reduceCtorEq, Int.reduceToNat, Int.reduceLT, Int.reduceLE, Int.reduceAdd, Int.reduceSub, Int.reduceMul, Int.reduceNeg, Int.reduceEq, Nat.reduceMod, forall_eq_or_imp, forall_eq, forall_const, EVY, true_imp_iff, implies_true, Int.cast_ofNat_Int, forall_eq']
  refine callK_ro (h1) ?_ ?_
  · simp only [↓EVP0, EVQ0, EVQ1, EVQ2, EVQ3, EVQ4, EVA, EVK, EVFR, ↓reduceIte, Nat.reduceEqDiff, Nat.reduceAdd, Nat.reduceSub, Nat.reduceMul, Nat.reduceLT, Nat.reduceLeDiff, reduceCtorEq, Int.reduceToNat, Int.reduceLT, Int.reduceLE, Int.reduceAdd, Int.reduceSub, Int.reduceMul, Int.reduceNeg, Int.reduceEq, Nat.reduceMod, forall_eq_or_imp, forall_eq, forall_const, EVY, true_imp_iff, implies_true, Int.cast_ofNat_Int, forall_eq']
  simp only [↓EVP0, EVQ0, EVQ1, EVQ2, EVQ3, EVQ4, EVA, EVK, EVFR, ↓reduceIte, Nat.reduceEqDiff, Nat.reduceAdd, Nat.reduceSub, Nat.reduceMul, Nat.reduceLT, Nat.reduceLeDiff, reduceCtorEq, Int.reduceToNat, Int.reduceLT, Int.reduceLE, Int.reduceAdd, Int.reduceSub, Int.reduceMul, Int.reduceNeg, Int.reduceEq, Nat.reduceMod, forall_eq_or_imp, forall_eq, forall_const, EVY, true_imp_iff, implies_true, Int.cast_ofNat_Int, forall_eq']
  obtain ⟨l1, l2⟩ := cutL 47 s
  have hE : prsQ s = if atoiB (cutE 47 s).1 = true then (if (cutE 47 s).2.2 = true then (if atoiB (cutE 47 s).2.1 = true then finQ s ⟨atoiN (cutE 47 s).1, atoiN (cutE 47 s).2.1⟩ else (⟨0, 0⟩, 3)) else finQ s ⟨atoiN (cutE 47 s).1, 1⟩) else (⟨0, 0⟩, 3) := rfl
  generalize cutE 47 s = c at *
  obtain ⟨a, b, sl⟩ := c
  simp only at l1 l2 hE ⊢
  have ha := h2 a (by omega)
  have hb := h2 b (by omega)
  rw [strB_data] at ha hb
  have na := atoi_bnd a
  have nb := atoi_bnd b
  have hfin : ∀ r : Rt, finQ s r = if vldR r = true ∧ txtQ r = s then (r, 0) else (⟨0, 0⟩, 3) := fun _ => rfl
  have hdec : ∀ r : Rt, decide (strB (txtQ r) = strB s) = decide (txtQ r = s) := fun r => decide_eq_decide.2 ⟨fun h => strB_inj h, fun h => by rw [h]⟩
  refine callK_ro (ha) ?_ ?_
  · simp only [↓EVP0, EVQ0, EVQ1, EVQ2, EVQ3, EVQ4, EVA, EVK, EVFR, ↓reduceIte, Nat.reduceEqDiff, Nat.reduceAdd, Nat.reduceSub, Nat.reduceMul, Nat.reduceLT, Nat.reduceLeDiff, reduceCtorEq, Int.reduceToNat, Int.reduceLT, Int.reduceLE, Int.reduceAdd, Int.reduceSub, Int.reduceMul, Int.reduceNeg, Int.reduceEq, Nat.reduceMod, forall_eq_or_imp, forall_eq, forall_const, EVY, true_imp_iff, implies_true, Int.cast_ofNat_Int, forall_eq']
  simp only [↓EVP0, EVQ0, EVQ1, EVQ2, EVQ3, EVQ4, EVA, EVK, EVFR, ↓reduceIte, Nat.reduceEqDiff, Nat.reduceAdd, Nat.reduceSub, Nat.reduceMul, Nat.reduceLT, Nat.reduceLeDiff, reduceCtorEq, Int.reduceToNat, Int.reduceLT, Int.reduceLE, Int.reduceAdd, Int.reduceSub, Int.reduceMul, Int.reduceNeg, Int.reduceEq, Nat.reduceMod, forall_eq_or_imp, forall_eq, forall_const, EVY, true_imp_iff, implies_true, Int.cast_ofNat_Int, forall_eq']
  cases e1 : atoiB a
  · rw [e1] at hE
    rw [hE]
    exact ⟨fun _ => ⟨⟨rfl, rfl⟩, rfl⟩, fun h => by simp at h⟩
  rw [e1] at hE
  simp only [if_true] at hE
  refine ⟨fun h => by simp at h, fun _ => ?_⟩
  have leaf : ∀ r : Rt, RtOk r → prsQ s = finQ s r → (Br (bif !vldR r then true else !decide (strB (txtQ r) = strB s)) ((0 = (prsQ s).1.n ∧ 0 = (prsQ s).1.d) ∧ 3 = (prsQ s).2) ((r.n = (prsQ s).1.n ∧ r.d = (prsQ s).1.d) ∧ 0 = (prsQ s).2)) := by
    intro r hr hp
    rw [hp, hfin, hdec]
    cases hv : vldR r
    · rw [if_neg (by rintro ⟨h, _⟩; simp at h)]
      exact ⟨fun _ => ⟨⟨rfl, rfl⟩, rfl⟩, fun h => by simp at h⟩
    · by_cases ht : txtQ r = s
      · rw [if_pos ⟨rfl, ht⟩, decide_eq_true ht]
        exact ⟨fun h => by simp at h, fun _ => ⟨⟨rfl, rfl⟩, rfl⟩⟩
      · rw [if_neg (fun h => ht h.2), decide_eq_false ht]
        exact ⟨fun _ => ⟨⟨rfl, rfl⟩, rfl⟩, fun h => by simp at h⟩
  cases sl
  · refine ⟨fun h => by simp at h, fun _ => ?_⟩
    simp only [Bool.false_eq_true, if_false] at hE
    have hr : RtOk ⟨atoiN a, 1⟩ := ⟨na, by show In64 1; unfold In64; omega⟩
    have h31 := h3 ⟨atoiN a, 1⟩ hr
    have h41 := h4 ⟨atoiN a, 1⟩ hr
    have hlf := leaf ⟨atoiN a, 1⟩ hr hE
    simp only at h31 h41 hlf
    refine callK_ro (h31) ?_ ?_
    · simp only [↓EVP0, EVQ0, EVQ1, EVQ2, EVQ3, EVQ4, EVA, EVK, EVFR, ↓reduceIte, Nat.reduceEqDiff, Nat.reduceAdd, Nat.reduceSub, Nat.reduceMul, Nat.reduceLT, Nat.reduceLeDiff, reduceCtorEq, Int.reduceToNat, Int.reduceLT, Int.reduceLE, Int.reduceAdd, Int.reduceSub, Int.reduceMul, Int.reduceNeg, Int.reduceEq, Nat.reduceMod, forall_eq_or_imp, forall_eq, forall_const, EVY, true_imp_iff, implies_true, Int.cast_ofNat_Int, forall_eq']
    simp only [↓EVP0, EVQ0, EVQ1, EVQ2, EVQ3, EVQ4, EVA, EVK, EVFR, ↓reduceIte, Nat.reduceEqDiff, Nat.reduceAdd, Nat.reduceSub, Nat.reduceMul, Nat.reduceLT, Nat.reduceLeDiff, reduceCtorEq, Int.reduceToNat, Int.reduceLT, Int.reduceLE, Int.reduceAdd, Int.reduceSub, Int.reduceMul, Int.reduceNeg, Int.reduceEq, Nat.reduceMod, forall_eq_or_imp, forall_eq, forall_const, EVY, true_imp_iff, implies_true, Int.cast_ofNat_Int, forall_eq']
    (refine lops_ge_imp ?_; simp only [↓EVP0, EVQ0, EVQ1, EVQ2, EVQ3, EVQ4, EVA, EVK, EVFR, ↓reduceIte, Nat.reduceEqDiff, Nat.reduceAdd, Nat.reduceSub, Nat.reduceMul, Nat.reduceLT, Nat.reduceLeDiff, reduceCtorEq, Int.reduceToNat, Int.reduceLT, Int.reduceLE, Int.reduceAdd, Int.reduceSub, Int.reduceMul, Int.reduceNeg, Int.reduceEq, Nat.reduceMod, forall_eq_or_imp, forall_eq, forall_const, EVY, true_imp_iff, implies_true, Int.cast_ofNat_Int, forall_eq'])
    refine gCallK_ro _ (fun _ => h41) (fun _ => ?_) ?_
    · simp only [↓EVP0, EVQ0, EVQ1, EVQ2, EVQ3, EVQ4, EVA, EVK, EVFR, ↓reduceIte, Nat.reduceEqDiff, Nat.reduceAdd, Nat.reduceSub, Nat.reduceMul, Nat.reduceLT, Nat.reduceLeDiff, reduceCtorEq, Int.reduceToNat, Int.reduceLT, Int.reduceLE, Int.reduceAdd, Int.reduceSub, Int.reduceMul, Int.reduceNeg, Int.reduceEq, Nat.reduceMod, forall_eq_or_imp, forall_eq, forall_const, EVY, true_imp_iff, implies_true, Int.cast_ofNat_Int, forall_eq']
    simp only [↓EVP0, EVQ0, EVQ1, EVQ2, EVQ3, EVQ4, EVA, EVK, EVFR, ↓reduceIte, Nat.reduceEqDiff, Nat.reduceAdd, Nat.reduceSub, Nat.reduceMul, Nat.reduceLT, Nat.reduceLeDiff, reduceCtorEq, Int.reduceToNat, Int.reduceLT, Int.reduceLE, Int.reduceAdd, Int.reduceSub, Int.reduceMul, Int.reduceNeg, Int.reduceEq, Nat.reduceMod, forall_eq_or_imp, forall_eq, forall_const, EVY, true_imp_iff, implies_true, Int.cast_ofNat_Int, forall_eq']
    exact hlf
  · refine ⟨fun _ => ?_, fun h => by simp at h⟩
    simp only [if_true] at hE
    refine callK_ro (hb) ?_ ?_
    · simp only [↓EVP0, EVQ0, EVQ1, EVQ2, EVQ3, EVQ4, EVA, EVK, EVFR, ↓reduceIte, Nat.reduceEqDiff, Nat.reduceAdd, Nat.reduceSub, Nat.reduceMul, Nat.reduceLT, Nat.reduceLeDiff, reduceCtorEq, Int.reduceToNat, Int.reduceLT, Int.reduceLE, Int.reduceAdd, Int.reduceSub, Int.reduceMul, Int.reduceNeg, Int.reduceEq, Nat.reduceMod, forall_eq_or_imp, forall_eq, forall_const, EVY, true_imp_iff, implies_true, Int.cast_ofNat_Int, forall_eq']
    simp only [↓EVP0, EVQ0, EVQ1, EVQ2, EVQ3, EVQ4, EVA, EVK, EVFR, ↓reduceIte, Nat.reduceEqDiff, Nat.reduceAdd, Nat.reduceSub, Nat.reduceMul, Nat.reduceLT, Nat.reduceLeDiff, reduceCtorEq, Int.reduceToNat, Int.reduceLT, Int.reduceLE, Int.reduceAdd, Int.reduceSub, Int.reduceMul, Int.reduceNeg, Int.reduceEq, Nat.reduceMod, forall_eq_or_imp, forall_eq, forall_const, EVY, true_imp_iff, implies_true, Int.cast_ofNat_Int, forall_eq']
    cases e2 : atoiB b
    · rw [e2] at hE
      simp only [Bool.false_eq_true, if_false] at hE
      rw [hE]
      exact ⟨fun _ => ⟨⟨rfl, rfl⟩, rfl⟩, fun h => by simp at h⟩
    rw [e2] at hE
    simp only [if_true] at hE
    refine ⟨fun h => by simp at h, fun _ => ?_⟩
    have hr : RtOk ⟨atoiN a, atoiN b⟩ := ⟨na, nb⟩
    have h31 := h3 ⟨atoiN a, atoiN b⟩ hr
    have h41 := h4 ⟨atoiN a, atoiN b⟩ hr
    have hlf := leaf ⟨atoiN a, atoiN b⟩ hr hE
    simp only at h31 h41 hlf
    refine callK_ro (h31) ?_ ?_
    · simp only [↓EVP0, EVQ0, EVQ1, EVQ2, EVQ3, EVQ4, EVA, EVK, EVFR, ↓reduceIte, Nat.reduceEqDiff, Nat.reduceAdd, Nat.reduceSub, Nat.reduceMul, Nat.reduceLT, Nat.reduceLeDiff, reduceCtorEq, Int.reduceToNat, Int.reduceLT, Int.reduceLE, Int.reduceAdd, Int.reduceSub, Int.reduceMul, Int.reduceNeg, Int.reduceEq, Nat.reduceMod, forall_eq_or_imp, forall_eq, forall_const, EVY, true_imp_iff, implies_true, Int.cast_ofNat_Int, forall_eq']
    simp only [↓EVP0, EVQ0, EVQ1, EVQ2, EVQ3, EVQ4, EVA, EVK, EVFR, ↓reduceIte, Nat.reduceEqDiff, Nat.reduceAdd, Nat.reduceSub, Nat.reduceMul, Nat.reduceLT, Nat.reduceLeDiff, reduceCtorEq, Int.reduceToNat, Int.reduceLT, Int.reduceLE, Int.reduceAdd, Int.reduceSub, Int.reduceMul, Int.reduceNeg, Int.reduceEq, Nat.reduceMod, forall_eq_or_imp, forall_eq, forall_const, EVY, true_imp_iff, implies_true, Int.cast_ofNat_Int, forall_eq']
    (refine lops_ge_imp ?_; simp only [↓EVP0, EVQ0, EVQ1, EVQ2, EVQ3, EVQ4, EVA, EVK, EVFR, ↓reduceIte, Nat.reduceEqDiff, Nat.reduceAdd, Nat.reduceSub, Nat.reduceMul, Nat.reduceLT, Nat.reduceLeDiff, reduceCtorEq, Int.reduceToNat, Int.reduceLT, Int.reduceLE, Int.reduceAdd, Int.reduceSub, Int.reduceMul, Int.reduceNeg, Int.reduceEq, Nat.reduceMod, forall_eq_or_imp, forall_eq, forall_const, EVY, true_imp_iff, implies_true, Int.cast_ofNat_Int, forall_eq'])
    refine gCallK_ro _ (fun _ => h41) (fun _ => ?_) ?_
    · simp only [↓EVP0, EVQ0, EVQ1, EVQ2, EVQ3, EVQ4, EVA, EVK, EVFR, ↓reduceIte, Nat.reduceEqDiff, Nat.reduceAdd, Nat.reduceSub, Nat.reduceMul, Nat.reduceLT, Nat.reduceLeDiff, reduceCtorEq, Int.reduceToNat, Int.reduceLT, Int.reduceLE, Int.reduceAdd, Int.reduceSub, Int.reduceMul, Int.reduceNeg, Int.reduceEq, Nat.reduceMod, forall_eq_or_imp, forall_eq, forall_const, EVY, true_imp_iff, implies_true, Int.cast_ofNat_Int, forall_eq']
    simp only [↓EVP0, EVQ0, EVQ1, EVQ2, EVQ3, EVQ4, EVA, EVK, EVFR, ↓reduceIte, Nat.reduceEqDiff, Nat.reduceAdd, Nat.reduceSub, Nat.reduceMul, Nat.reduceLT, Nat.reduceLeDiff, reduceCtorEq, Int.reduceToNat, Int.reduceLT, Int.reduceLE, Int.reduceAdd, Int.reduceSub, Int.reduceMul, Int.reduceNeg, Int.reduceEq, Nat.reduceMod, forall_eq_or_imp, forall_eq, forall_const, EVY, true_imp_iff, implies_true, Int.cast_ofNat_Int, forall_eq']
    exact hlf
end Go.Proofs.YtdfiicpikcdokaaGreatDoor
namespace Go.Proofs.YtdfiicpikcdokaaGreatDoor
set_option linter.unusedSimpArgs false
set_option linter.unusedVariables false
open Go.RowKit
set_option maxRecDepth 20000

def rlQ : By → Nat → Int → Int → Option (Nat × Int × Int)
  | [], p, a, b => some (p, a, b)
  | c :: r, p, a, b => if c = 47 ∧ p = 0 then rlQ r 1 a b else if c.toNat < 48 ∨ 57 < c.toNat ∨ 144115188075855872 < (if p = 0 then a else b) then none else
      if p = 0 then rlQ r p (10 * a + ((c.toNat : Int) - 48)) b else rlQ r p a (10 * b + ((c.toNat : Int) - 48))
def rpQ (s : By) : Option Rt := match rlQ (if s.head? = some 45 then s.drop 1 else s) 0 0 0 with
  | none => none
  | some (p, a, b) => if (if p = 0 then (1 : Int) else b) ≠ 0 ∧ vldR ⟨if s.head? = some 45 then -a else a, if p = 0 then 1 else b⟩ = true ∧ txtQ ⟨if s.head? = some 45 then -a else a, if p = 0 then 1 else b⟩ = s then some ⟨if s.head? = some 45 then -a else a, if p = 0 then 1 else b⟩ else none
theorem dig_ne {m : Nat} (h : m < 10) : UInt8.ofNat (48 + m) ≠ 47 := by
  intro e
  have := congrArg UInt8.toNat e
  rw [dig_nat h] at this
  simp at this
  omega
theorem rl_dd0 : ∀ u : Nat, u ≤ 1152921504606846976 → ∀ (rest : By) (b : Int), rlQ (Lib.decDigits u ++ rest) 0 0 b = rlQ rest 0 u b := by
  intro u
  induction u using Nat.strongRecOn with
  | ind u ih =>
    intro hu rest b
    have hm := Nat.mod_lt u (show 0 < 10 by omega)
    have hd := dig_nat hm
    have step : ∀ a : Nat, a * 10 + u % 10 = u → a ≤ 144115188075855872 → rlQ (UInt8.ofNat (48 + u % 10) :: rest) 0 a b = rlQ rest 0 u b := by
      intro a h1 h2
      show (if UInt8.ofNat (48 + u % 10) = 47 ∧ 0 = 0 then _ else if (UInt8.ofNat (48 + u % 10)).toNat < 48 ∨ 57 < (UInt8.ofNat (48 + u % 10)).toNat ∨ 144115188075855872 < (if 0 = 0 then (a : Int) else b) then _ else _) = _
      rw [if_neg (fun h => dig_ne hm h.1), hd, if_neg (by simp only [if_true]; omega), if_pos rfl]
      congr 1
      omega
    by_cases h : u < 10
    · rw [ddS h]
      exact step 0 (by omega) (by omega)
    · rw [ddB h, List.append_assoc, ih (u / 10) (by omega) (by omega)]
      exact step (u / 10) (by omega) (by omega)
theorem rl_dd1 : ∀ u : Nat, u ≤ 1152921504606846976 → ∀ (rest : By) (a : Int), rlQ (Lib.decDigits u ++ rest) 1 a 0 = rlQ rest 1 a u := by
  intro u
  induction u using Nat.strongRecOn with
  | ind u ih =>
    intro hu rest a
    have hm := Nat.mod_lt u (show 0 < 10 by omega)
    have hd := dig_nat hm
    have step : ∀ b : Nat, b * 10 + u % 10 = u → b ≤ 144115188075855872 → rlQ (UInt8.ofNat (48 + u % 10) :: rest) 1 a b = rlQ rest 1 a u := by
      intro b h1 h2
      show (if UInt8.ofNat (48 + u % 10) = 47 ∧ 1 = 0 then _ else if (UInt8.ofNat (48 + u % 10)).toNat < 48 ∨ 57 < (UInt8.ofNat (48 + u % 10)).toNat ∨ 144115188075855872 < (if 1 = 0 then a else (b : Int)) then _ else _) = _
      rw [if_neg (fun h => dig_ne hm h.1), hd, if_neg (by simp; omega), if_neg (by omega)]
      congr 1
      omega
    by_cases h : u < 10
    · rw [ddS h]
      exact step 0 (by omega) (by omega)
    · rw [ddB h, List.append_assoc, ih (u / 10) (by omega) (by omega)]
      exact step (u / 10) (by omega) (by omega)
theorem rp_txt {r : Rt} (hv : vldR r = true) (hd : 1 ≤ r.d) : rpQ (txtQ r) = some r := by
  obtain ⟨b2, b3, _, b1⟩ := vld_bnd hv
  have fin : ∀ (s : By) (p : Nat) (a b : Int), s = txtQ r → rlQ (if s.head? = some 45 then s.drop 1 else s) 0 0 0 = some (p, a, b) → (⟨if s.head? = some 45 then -a else a, if p = 0 then 1 else b⟩ : Rt) = r → rpQ s = some r := by
    intro s p a b hs h1 h2
    unfold rpQ
    rw [h1]
    simp only
    have h3 := congrArg Rt.d h2
    simp only at h3
    rw [h2, h3, if_pos ⟨by omega, hv, hs.symm⟩]
  have htail : (if 1 < r.d then Lib.itoa r.n ++ 47 :: Lib.itoa r.d else Lib.itoa r.n) = Lib.itoa r.n ++ (if 1 < r.d then 47 :: Lib.itoa r.d else []) := by
    split
    · rfl
    · rw [List.append_nil]
  have ht : txtQ r = Lib.itoa r.n ++ (if 1 < r.d then 47 :: Lib.itoa r.d else []) := by unfold txtQ; rw [if_pos hv, htail]
  have hrest : ∀ u : Nat, rlQ (if 1 < r.d then 47 :: Lib.itoa r.d else []) 0 u 0 = some (if 1 < r.d then 1 else 0, (u : Int), if 1 < r.d then r.d else 0) := by
    intro u
    by_cases e : 1 < r.d
    · rw [if_pos e, if_pos e, if_pos e]
      show (if (47 : UInt8) = 47 ∧ 0 = 0 then rlQ (Lib.itoa r.d) 1 u 0 else _) = _
      rw [if_pos ⟨rfl, rfl⟩, itP (by omega)]
      have := rl_dd1 r.d.toNat (by omega) [] u
      rw [List.append_nil] at this
      rw [this]
      show some (1, (u : Int), ((r.d.toNat : Nat) : Int)) = _
      rw [show ((r.d.toNat : Nat) : Int) = r.d by omega]
    · rw [if_neg e, if_neg e, if_neg e]; rfl
  have hden : (if (if 1 < r.d then 1 else 0) = 0 then (1 : Int) else (if 1 < r.d then r.d else 0)) = r.d := by
    by_cases e : 1 < r.d
    · simp [e]
    · simp [e]; omega
  by_cases hn : r.n < 0
  · have hs : txtQ r = 45 :: (Lib.decDigits r.n.natAbs ++ (if 1 < r.d then 47 :: Lib.itoa r.d else [])) := by rw [ht, itN hn]; rfl
    refine fin (txtQ r) (if 1 < r.d then 1 else 0) (r.n.natAbs : Nat) (if 1 < r.d then r.d else 0) rfl ?_ ?_
    · rw [hs]
      show rlQ (Lib.decDigits r.n.natAbs ++ (if 1 < r.d then 47 :: Lib.itoa r.d else [])) 0 0 0 = _
      rw [rl_dd0 _ (by omega)]
      exact hrest _
    · rw [hden, hs]
      show (⟨-((r.n.natAbs : Nat) : Int), r.d⟩ : Rt) = r
      rw [show -((r.n.natAbs : Nat) : Int) = r.n by omega]
  · have hs : txtQ r = Lib.decDigits r.n.toNat ++ (if 1 < r.d then 47 :: Lib.itoa r.d else []) := by rw [ht, itP (by omega)]
    have hh : (txtQ r).head? ≠ some 45 := by
      rw [hs]
      have hc := dd_chars r.n.toNat
      have hne := dd_ne r.n.toNat
      generalize Lib.decDigits r.n.toNat = l at *
      match l, hne with
      | c :: q, _ =>
        intro e
        simp at e
        have := (hc c (by simp)).1
        rw [e] at this
        simp at this
    refine fin (txtQ r) (if 1 < r.d then 1 else 0) (r.n.toNat : Nat) (if 1 < r.d then r.d else 0) rfl ?_ ?_
    · rw [if_neg hh, hs, rl_dd0 _ (by omega)]
      exact hrest _
    · rw [hden, if_neg hh]
      rw [show ((r.n.toNat : Nat) : Int) = r.n by omega]
theorem rp_cases (s : By) : (∃ r, rpQ s = some r ∧ vldR r = true ∧ txtQ r = s ∧ 1 ≤ r.d) ∨ rpQ s = none := by
  unfold rpQ
  cases h : rlQ (if s.head? = some 45 then s.drop 1 else s) 0 0 0 with
  | none => exact .inr rfl
  | some q =>
    obtain ⟨p, a, b⟩ := q
    simp only
    have hrd : (if p = 0 then (1 : Int) else b) = (⟨if s.head? = some 45 then -a else a, if p = 0 then 1 else b⟩ : Rt).d := rfl
    rw [hrd]
    generalize (⟨if s.head? = some 45 then -a else a, if p = 0 then 1 else b⟩ : Rt) = r
    by_cases h2 : r.d ≠ 0 ∧ vldR r = true ∧ txtQ r = s
    · rw [if_pos h2]
      refine .inl ⟨_, rfl, h2.2.1, h2.2.2, ?_⟩
      have h3 := h2.2.1
      unfold vldR at h3
      simp only [Bool.or_eq_true, Bool.and_eq_true, decide_eq_true_eq] at h3
      rcases h3 with h3 | h3
      · exact absurd h3.2 h2.1
      · exact h3.1
    · rw [if_neg h2]; exact .inr rfl
theorem rp_prs (s : By) (hs : ∀ r, txtQ r = s → vldR r = true → RtOk r) : (∃ r, rpQ s = some r ∧ prsQ s = (r, 0)) ∨ (rpQ s = none ∧ prsQ s = (⟨0, 0⟩, 3)) := by
  rcases prs_cases s with ⟨r, h1, h2, h3, h4⟩ | h
  · refine .inl ⟨r, ?_, h1⟩
    rw [← h3]; exact rp_txt h2 h4
  · rcases rp_cases s with ⟨r, h1, h2, h3, h4⟩ | h5
    · have := prs_txt (hs r h3 h2) h2 h4
      rw [h3, h] at this
      simp at this
    · exact .inr ⟨h5, h⟩
end Go.Proofs.YtdfiicpikcdokaaGreatDoor
namespace Go.Proofs.YtdfiicpikcdokaaGreatDoor
set_option linter.unusedSimpArgs false
set_option linter.unusedVariables false
open Go.RowKit
set_option linter.unusedVariables false

theorem abs_d {S : Rt} (h : 1 ≤ S.d) : ((S.d.natAbs : Nat) : Int) = S.d := by omega
theorem low_fr {x : Int} {y : Nat} (hy : 0 < y) (h : (low x y).2 = 0) : Low (low x y).1 ∧ (low x y).1.n * y = x * (low x y).1.d := by
  rcases low_ok (x := x) hy with ⟨_, h2, h3⟩ | h2
  · exact ⟨h2, h3⟩
  · rw [h2] at h; simp at h
theorem pos2 {A B : Rt} (a : Low A) (b : Low B) : 0 < A.d.natAbs * B.d.natAbs := Nat.mul_pos (by have := a.1; omega) (by have := b.1; omega)
theorem addE_fr {A B : Rt} (a : Low A) (b : Low B) (h : (addE A B).2 = 0) : Low (addE A B).1 ∧ (addE A B).1.n * ((A.d.natAbs * B.d.natAbs : Nat) : Int) = (A.n * B.d + B.n * A.d) * (addE A B).1.d := low_fr (pos2 a b) h
theorem cmpI_le {x y : Int} : cmpI x y ≤ 0 ↔ x ≤ y := by
  unfold cmpI
  split
  · constructor <;> intros <;> omega
  · split <;> constructor <;> intros <;> omega
end Go.Proofs.YtdfiicpikcdokaaGreatDoor
namespace Go.Proofs.YtdfiicpikcdokaaGreatDoor
set_option linter.unusedSimpArgs false
set_option linter.unusedVariables false
open Go.RowKit
set_option maxRecDepth 20000

theorem ev_rgcd (a b : Nat) : Ev Tryz.prog 66 [.sc (.int .i64 (a : Int)), .sc (.int .i64 (b : Int))] (.sc (.int .i64 ((Nat.gcd a b : Nat) : Int))) := by
  refine ev_fn Tryz.func66 comp66 (show 2 ≤ Tryz.f66.ntmps by decide) ?_; unfold cf66 rf66; simp only [↓EVP0, EVQ0, EVQ1, EVQ2, EVQ3, EVQ4, EVA, EVK, EVFR, ↓reduceIte, Nat.reduceEqDiff, Nat.reduceAdd, Nat.reduceSub, Nat.reduceMul, Nat.reduceLT, Nat.reduceLeDiff, reduceCtorEq, Int.reduceToNat, Int.reduceLT, Int.reduceLE, Int.reduceAdd, Int.reduceSub, Int.reduceMul, Int.reduceNeg, Int.reduceEq, Nat.reduceMod, forall_eq_or_imp, forall_eq, forall_const, EVY, true_imp_iff, implies_true, Int.cast_ofNat_Int, forall_eq']
  refine lwp_loop (α := Nat × Nat) (fun q => Nat.gcd q.1 q.2 = Nat.gcd a b) (fun q => [(0, .sc (.int .i64 (q.1 : Int))), (1, .sc (.int .i64 (q.2 : Int)))]) (fun _ => []) (fun q => q.2) (a, b) rfl ?_ (fun _ => Nat.zero_le _) ?_
  · simp only [↓EVP0, EVQ0, EVQ1, EVQ2, EVQ3, EVQ4, EVA, EVK, EVFR, ↓reduceIte, Nat.reduceEqDiff, Nat.reduceAdd, Nat.reduceSub, Nat.reduceMul, Nat.reduceLT, Nat.reduceLeDiff, reduceCtorEq, Int.reduceToNat, Int.reduceLT, Int.reduceLE, Int.reduceAdd, Int.reduceSub, Int.reduceMul, Int.reduceNeg, Int.reduceEq, Nat.reduceMod, forall_eq_or_imp, forall_eq, forall_const, EVY, true_imp_iff, implies_true, Int.cast_ofNat_Int, forall_eq']
  rintro ⟨x, y⟩ hxy
  unfold lb66_0
  simp only [↓EVP0, EVQ0, EVQ1, EVQ2, EVQ3, EVQ4, EVA, EVK, EVFR, ↓reduceIte, Nat.reduceEqDiff, Nat.reduceAdd, Nat.reduceSub, Nat.reduceMul, Nat.reduceLT, Nat.reduceLeDiff, reduceCtorEq, Int.reduceToNat, Int.reduceLT, Int.reduceLE, Int.reduceAdd, Int.reduceSub, Int.reduceMul, Int.reduceNeg, Int.reduceEq, Nat.reduceMod, forall_eq_or_imp, forall_eq, forall_const, EVY, true_imp_iff, implies_true, Int.cast_ofNat_Int, forall_eq']
  refine ⟨fun h => ⟨by simp at h; omega, (y, x % y), ?_, ⟨rfl, (Int.ofNat_tmod x y).symm⟩, ?_⟩, fun h => ?_⟩
  · simp only at hxy ⊢
    rw [← hxy, Nat.gcd_comm x y, Nat.gcd_rec y x, Nat.gcd_comm]
  · simp at h
    exact Nat.mod_lt _ (by omega)
  · have : y = 0 := by simp at h; omega
    subst this
    simp only [Nat.gcd_zero_right] at hxy
    rw [hxy]
theorem ev_rabs (n : Int) (h : -9223372036854775807 ≤ n ∧ n ≤ 9223372036854775807) : Ev Tryz.prog 67 [.sc (.int .i64 n)] (.sc (.int .i64 ((mag n : Nat) : Int))) := by
  refine ev_fn Tryz.func67 comp67 (show 1 ≤ Tryz.f67.ntmps by decide) ?_; unfold cf67 rf67; simp only [↓EVP0, EVQ0, EVQ1, EVQ2, EVQ3, EVQ4, EVA, EVK, EVFR, ↓reduceIte, Nat.reduceEqDiff, Nat.reduceAdd, Nat.reduceSub, Nat.reduceMul, Nat.reduceLT, Nat.reduceLeDiff, reduceCtorEq, Int.reduceToNat, Int.reduceLT, Int.reduceLE, Int.reduceAdd, Int.reduceSub, Int.reduceMul, Int.reduceNeg, Int.reduceEq, Nat.reduceMod, forall_eq_or_imp, forall_eq, forall_const, EVY, true_imp_iff, implies_true, Int.cast_ofNat_Int, forall_eq']
  unfold mag
  rw [wrap64_in (show In64 (0 - n) by unfold In64; omega)]
  refine ⟨fun g => ?_, fun g => ?_⟩
  · have g' : n < 0 := by simpa using g
    omega
  · have g' : ¬ n < 0 := by simpa using g
    omega
theorem ev_rvalid (r : Rt) : Ev Tryz.prog 51 [ratV r] (.sc (.bool (vldR r))) := by
  have h1 := ev_rabs r.n
  have h3 := ev_rgcd
  unfold ratV
  refine ev_fn Tryz.func51 comp51 (show 1 ≤ Tryz.f51.ntmps by decide) ?_; unfold cf51 rf51; simp only [↓EVP0, EVQ0, EVQ1, EVQ2, EVQ3, EVQ4, EVA, EVK, EVFR, ↓reduceIte, Nat.reduceEqDiff, Nat.reduceAdd, Nat.reduceSub, Nat.reduceMul, Nat.reduceLT, Nat.reduceLeDiff, reduceCtorEq, Int.reduceToNat, Int.reduceLT, Int.reduceLE, Int.reduceAdd, Int.reduceSub, Int.reduceMul, Int.reduceNeg, Int.reduceEq, Nat.reduceMod, forall_eq_or_imp, forall_eq, forall_const, EVY, true_imp_iff, implies_true, Int.cast_ofNat_Int, forall_eq']
  refine ⟨fun g => ?_, fun g => ?_⟩
  · have : vldR r = true := by
      unfold vldR
      cases h : decide (r.n = 0) <;> rw [h] at g <;> simp at g
      simp [g]
    rw [this]
  (first | refine lopsQ_gcall ?_ | refine lopsQ_gecl ?_); (simp only [↓EVP0, EVQ0, EVQ1, EVQ2, EVQ3, EVQ4, EVA, EVK, EVFR, ↓reduceIte, Nat.reduceEqDiff, Nat.reduceAdd, Nat.reduceSub, Nat.reduceMul, Nat.reduceLT, Nat.reduceLeDiff, reduceCtorEq, Int.reduceToNat, Int.reduceLT, Int.reduceLE, Int.reduceAdd, Int.reduceSub, Int.reduceMul, Int.reduceNeg, Int.reduceEq, Nat.reduceMod, forall_eq_or_imp, forall_eq, forall_const, EVY, true_imp_iff, implies_true, Int.cast_ofNat_Int, forall_eq'])
  first | refine gCallK_ro (.sc (.int .i64 ((mag r.n : Nat) : Int))) (fun hg => h1 ?_) (fun _ => ?_) ?_ | refine geCallK_ro (.sc (.int .i64 ((mag r.n : Nat) : Int))) (fun hg => h1 ?_) (fun _ => ?_) ?_
  · simp only [condF, Bool.and_eq_true, decide_eq_true_eq] at hg; omega
  · simp only [↓EVP0, EVQ0, EVQ1, EVQ2, EVQ3, EVQ4, EVA, EVK, EVFR, ↓reduceIte, Nat.reduceEqDiff, Nat.reduceAdd, Nat.reduceSub, Nat.reduceMul, Nat.reduceLT, Nat.reduceLeDiff, reduceCtorEq, Int.reduceToNat, Int.reduceLT, Int.reduceLE, Int.reduceAdd, Int.reduceSub, Int.reduceMul, Int.reduceNeg, Int.reduceEq, Nat.reduceMod, forall_eq_or_imp, forall_eq, forall_const, EVY, true_imp_iff, implies_true, Int.cast_ofNat_Int, forall_eq']
  simp only [↓EVP0, EVQ0, EVQ1, EVQ2, EVQ3, EVQ4, EVA, EVK, EVFR, ↓reduceIte, Nat.reduceEqDiff, Nat.reduceAdd, Nat.reduceSub, Nat.reduceMul, Nat.reduceLT, Nat.reduceLeDiff, reduceCtorEq, Int.reduceToNat, Int.reduceLT, Int.reduceLE, Int.reduceAdd, Int.reduceSub, Int.reduceMul, Int.reduceNeg, Int.reduceEq, Nat.reduceMod, forall_eq_or_imp, forall_eq, forall_const, EVY, true_imp_iff, implies_true, Int.cast_ofNat_Int, forall_eq']
  (first | refine lopsQ_gcall ?_ | refine lopsQ_gecl ?_); (simp only [↓EVP0, EVQ0, EVQ1, EVQ2, EVQ3, EVQ4, EVA, EVK, EVFR, ↓reduceIte, Nat.reduceEqDiff, Nat.reduceAdd, Nat.reduceSub, Nat.reduceMul, Nat.reduceLT, Nat.reduceLeDiff, reduceCtorEq, Int.reduceToNat, Int.reduceLT, Int.reduceLE, Int.reduceAdd, Int.reduceSub, Int.reduceMul, Int.reduceNeg, Int.reduceEq, Nat.reduceMod, forall_eq_or_imp, forall_eq, forall_const, EVY, true_imp_iff, implies_true, Int.cast_ofNat_Int, forall_eq'])
  have h4 : ∀ hg : 1 ≤ r.d, Ev Tryz.prog 66 [.sc (.int .i64 ((mag r.n : Nat) : Int)), .sc (.int .i64 r.d)] (.sc (.int .i64 ((Nat.gcd (mag r.n) (mag r.d) : Nat) : Int))) := by
    intro hg
    have := h3 (mag r.n) (mag r.d)
    rw [show ((mag r.d : Nat) : Int) = r.d by unfold mag; omega] at this
    exact this
  first | refine gCallK_ro _ (fun hg => h4 ?_) (fun _ => ?_) ?_ | refine geCallK_ro _ (fun hg => h4 ?_) (fun _ => ?_) ?_
  · simp only [condF, Bool.and_eq_true, decide_eq_true_eq] at hg; omega
  · simp only [↓EVP0, EVQ0, EVQ1, EVQ2, EVQ3, EVQ4, EVA, EVK, EVFR, ↓reduceIte, Nat.reduceEqDiff, Nat.reduceAdd, Nat.reduceSub, Nat.reduceMul, Nat.reduceLT, Nat.reduceLeDiff, reduceCtorEq, Int.reduceToNat, Int.reduceLT, Int.reduceLE, Int.reduceAdd, Int.reduceSub, Int.reduceMul, Int.reduceNeg, Int.reduceEq, Nat.reduceMod, forall_eq_or_imp, forall_eq, forall_const, EVY, true_imp_iff, implies_true, Int.cast_ofNat_Int, forall_eq']
  simp only [↓EVP0, EVQ0, EVQ1, EVQ2, EVQ3, EVQ4, EVA, EVK, EVFR, ↓reduceIte, Nat.reduceEqDiff, Nat.reduceAdd, Nat.reduceSub, Nat.reduceMul, Nat.reduceLT, Nat.reduceLeDiff, reduceCtorEq, Int.reduceToNat, Int.reduceLT, Int.reduceLE, Int.reduceAdd, Int.reduceSub, Int.reduceMul, Int.reduceNeg, Int.reduceEq, Nat.reduceMod, forall_eq_or_imp, forall_eq, forall_const, EVY, true_imp_iff, implies_true, Int.cast_ofNat_Int, forall_eq']
  simp only [condF] at g ⊢
  unfold vldR
  rw [g, Bool.false_or]
  have e : ∀ n : Nat, decide ((n : Int) = 1) = decide (n = 1) := fun n => by
    by_cases h : n = 1
    · subst h; rfl
    · have : ¬ (n : Int) = 1 := by omega
      simp [h, this]
  rw [e]
  cases decide (1 ≤ r.d) <;> cases decide (r.d ≤ 1152921504606846976) <;> cases decide (-1152921504606846976 ≤ r.n) <;> cases decide (r.n ≤ 1152921504606846976) <;> rfl
def fullR (r : Rt) : Rt := if r.d = 0 then ⟨0, 1⟩ else r
theorem ev_full (r : Rt) : Ev Tryz.prog 49 [ratV r] (ratV (fullR r)) := by
  unfold ratV
  refine ev_fn Tryz.func49 comp49 (show 1 ≤ Tryz.f49.ntmps by decide) ?_; unfold cf49 rf49; simp only [↓EVP0, EVQ0, EVQ1, EVQ2, EVQ3, EVQ4, EVA, EVK, EVFR, ↓reduceIte, Nat.reduceEqDiff, Nat.reduceAdd, Nat.reduceSub, Nat.reduceMul, Nat.reduceLT, Nat.reduceLeDiff, reduceCtorEq, Int.reduceToNat, Int.reduceLT, Int.reduceLE, Int.reduceAdd, Int.reduceSub, Int.reduceMul, Int.reduceNeg, Int.reduceEq, Nat.reduceMod, forall_eq_or_imp, forall_eq, forall_const, EVY, true_imp_iff, implies_true, Int.cast_ofNat_Int, forall_eq']
  unfold fullR
  refine ⟨fun g => ?_, fun g => ?_⟩
  · rw [if_pos (by simpa using g)]; exact ⟨rfl, rfl⟩
  · rw [if_neg (by simpa using g)]; exact ⟨rfl, rfl⟩
theorem full_nrm {r : Rt} (h : vldR r = true) : fullR r = nrmR r := by
  unfold fullR nrmR
  split
  · unfold vldR at h
    simp only [Bool.or_eq_true, Bool.and_eq_true, decide_eq_true_eq] at h
    rcases h with h | h
    · rw [h.1]
    · omega
  · rfl
end Go.Proofs.YtdfiicpikcdokaaGreatDoor
namespace Go.Proofs.YtdfiicpikcdokaaGreatDoor
set_option linter.unusedSimpArgs false
set_option linter.unusedVariables false
open Go.RowKit
set_option maxRecDepth 20000

theorem dig_str {m : Nat} (h : m < 10) : (⟨#[48, 49, 50, 51, 52, 53, 54, 55, 56, 57]⟩ : ByteArray).extract m (m + 1) = strB [UInt8.ofNat (48 + m)] := by
  have : ∀ m, m < 10 → (⟨#[48, 49, 50, 51, 52, 53, 54, 55, 56, 57]⟩ : ByteArray).extract m (m + 1) = strB [UInt8.ofNat (48 + m)] := by decide
  exact this m h
theorem ddLen : ∀ (k n : Nat), n < 10 ^ k → 0 < k → (Lib.decDigits n).length ≤ k := by
  intro k
  induction k with
  | zero => intro n _ h; omega
  | succ k ih =>
    intro n h _
    by_cases e : n < 10
    · rw [ddS e]; simp
    · rw [ddB e, List.length_append, List.length_singleton]
      have hk : 0 < k := by
        rcases Nat.eq_zero_or_pos k with h0 | h0
        · subst h0; simp at h; omega
        · exact h0
      have := ih (n / 10) (by rw [Nat.pow_succ] at h; omega) hk
      omega
theorem ev_rdec : ∀ n : Nat, n ≤ 1152921504606846976 → Ev Tryz.prog 50 [.sc (.int .i64 (n : Int))] (.sc (.string (strB (Lib.decDigits n)))) := by
  intro n
  induction n using Nat.strongRecOn with
  | ind n ih =>
    intro hn
    have hm := Nat.mod_lt n (show 0 < 10 by omega)
    refine ev_fn Tryz.func50 comp50 (show 1 ≤ Tryz.f50.ntmps by decide) ?_; unfold cf50 rf50; simp only [↓EVP0, EVQ0, EVQ1, EVQ2, EVQ3, EVQ4, EVA, EVK, EVFR, ↓reduceIte, Nat.reduceEqDiff, Nat.reduceAdd, Nat.reduceSub, Nat.reduceMul, Nat.reduceLT, Nat.reduceLeDiff, reduceCtorEq, Int.reduceToNat, Int.reduceLT, Int.reduceLE, Int.reduceAdd, Int.reduceSub, Int.reduceMul, Int.reduceNeg, Int.reduceEq, Nat.reduceMod, forall_eq_or_imp, forall_eq, forall_const, EVY, true_imp_iff, implies_true, Int.cast_ofNat_Int, forall_eq']
    have e1 : (n : Int).tmod 10 = ((n % 10 : Nat) : Int) := rfl
    have e2 : (n : Int).tdiv 10 = ((n / 10 : Nat) : Int) := rfl
    rw [e1, e2]
    rw [show ((n % 10 : Nat) : Int).toNat = n % 10 by omega, show (((n % 10 : Nat) : Int) + 1).toNat = n % 10 + 1 by omega, dig_str hm]
    have hsz : (⟨#[48, 49, 50, 51, 52, 53, 54, 55, 56, 57]⟩ : ByteArray).size = 10 := rfl
    rw [hsz]
    refine ⟨fun hg => ?_, fun _ => ⟨by omega, by omega, by unfold In64; omega, ⟨by omega, by omega, by omega⟩, fun hg => ?_, fun hg => ⟨⟨by omega, by unfold In64; omega⟩, ?_⟩⟩⟩
    · have := of_decide_eq_true hg; omega
    · rw [ddS (by have := of_decide_eq_true hg; omega)]
    · have hn2 : ¬ n < 10 := by have := of_decide_eq_false hg; omega
      have h1 := ih (n / 10) (by omega) (by omega)
      have hl := ddLen 20 (n / 10) (by omega) (by omega)
      refine callK_ro (h1) ?_ ?_
      · simp only [↓EVP0, EVQ0, EVQ1, EVQ2, EVQ3, EVQ4, EVA, EVK, EVFR, ↓reduceIte, Nat.reduceEqDiff, Nat.reduceAdd, Nat.reduceSub, Nat.reduceMul, Nat.reduceLT, Nat.reduceLeDiff, reduceCtorEq, Int.reduceToNat, Int.reduceLT, Int.reduceLE, Int.reduceAdd, Int.reduceSub, Int.reduceMul, Int.reduceNeg, Int.reduceEq, Nat.reduceMod, forall_eq_or_imp, forall_eq, forall_const, EVY, true_imp_iff, implies_true, Int.cast_ofNat_Int, forall_eq']
      simp only [↓EVP0, EVQ0, EVQ1, EVQ2, EVQ3, EVQ4, EVA, EVK, EVFR, ↓reduceIte, Nat.reduceEqDiff, Nat.reduceAdd, Nat.reduceSub, Nat.reduceMul, Nat.reduceLT, Nat.reduceLeDiff, reduceCtorEq, Int.reduceToNat, Int.reduceLT, Int.reduceLE, Int.reduceAdd, Int.reduceSub, Int.reduceMul, Int.reduceNeg, Int.reduceEq, Nat.reduceMod, forall_eq_or_imp, forall_eq, forall_const, EVY, true_imp_iff, implies_true, Int.cast_ofNat_Int, forall_eq']
      rw [strB_app, strB_size, strB_size, ← ddB hn2]
      exact ⟨by simp only [List.length_singleton]; omega, rfl⟩
theorem ev_rdecI (n : Int) (h : -1152921504606846976 ≤ n ∧ n ≤ 1152921504606846976) : Ev Tryz.prog 50 [.sc (.int .i64 n)] (.sc (.string (strB (Lib.itoa n)))) := by
  by_cases e : n < 0
  · have h1 := ev_rdec n.natAbs (by omega)
    refine ev_fn Tryz.func50 comp50 (show 1 ≤ Tryz.f50.ntmps by decide) ?_; unfold cf50 rf50; simp only [↓EVP0, EVQ0, EVQ1, EVQ2, EVQ3, EVQ4, EVA, EVK, EVFR, ↓reduceIte, Nat.reduceEqDiff, Nat.reduceAdd, Nat.reduceSub, Nat.reduceMul, Nat.reduceLT, Nat.reduceLeDiff, reduceCtorEq, Int.reduceToNat, Int.reduceLT, Int.reduceLE, Int.reduceAdd, Int.reduceSub, Int.reduceMul, Int.reduceNeg, Int.reduceEq, Nat.reduceMod, forall_eq_or_imp, forall_eq, forall_const, EVY, true_imp_iff, implies_true, Int.cast_ofNat_Int, forall_eq']
    rw [decide_eq_true e]
    refine ⟨fun _ => ?_, fun h => by simp at h⟩
    rw [show IntKind.i64.wrap (0 - n) = ((n.natAbs : Nat) : Int) by rw [wrap64_in (by unfold In64; omega)]; omega]
    have hl := ddLen 20 n.natAbs (by omega) (by omega)
    refine callK_ro (h1) ?_ ?_
    · simp only [↓EVP0, EVQ0, EVQ1, EVQ2, EVQ3, EVQ4, EVA, EVK, EVFR, ↓reduceIte, Nat.reduceEqDiff, Nat.reduceAdd, Nat.reduceSub, Nat.reduceMul, Nat.reduceLT, Nat.reduceLeDiff, reduceCtorEq, Int.reduceToNat, Int.reduceLT, Int.reduceLE, Int.reduceAdd, Int.reduceSub, Int.reduceMul, Int.reduceNeg, Int.reduceEq, Nat.reduceMod, forall_eq_or_imp, forall_eq, forall_const, EVY, true_imp_iff, implies_true, Int.cast_ofNat_Int, forall_eq']
    simp only [↓EVP0, EVQ0, EVQ1, EVQ2, EVQ3, EVQ4, EVA, EVK, EVFR, ↓reduceIte, Nat.reduceEqDiff, Nat.reduceAdd, Nat.reduceSub, Nat.reduceMul, Nat.reduceLT, Nat.reduceLeDiff, reduceCtorEq, Int.reduceToNat, Int.reduceLT, Int.reduceLE, Int.reduceAdd, Int.reduceSub, Int.reduceMul, Int.reduceNeg, Int.reduceEq, Nat.reduceMod, forall_eq_or_imp, forall_eq, forall_const, EVY, true_imp_iff, implies_true, Int.cast_ofNat_Int, forall_eq']
    have c1 : (⟨#[45]⟩ : ByteArray) = strB [45] := rfl
    rw [c1, strB_app, strB_size, strB_size, itN e]
    exact ⟨by simp only [List.length_singleton]; omega, rfl⟩
  · have h1 := ev_rdec n.toNat (by omega)
    rw [show ((n.toNat : Nat) : Int) = n by omega, ← itP (by omega)] at h1
    exact h1
theorem ev_rtext (r : Rt) (hv : vldR r = true) : Ev Tryz.prog 27 [ratV r] (.sc (.string (strB (txtQ r)))) := by
  have hb := vld_bnd hv
  have h1 := ev_full r
  have h2 := fun n h => ev_rdecI n h
  have hr : RtOk r := ⟨by unfold In64; omega, by unfold In64; omega⟩
  have l1 := itoa_le hr.1
  have l2 := itoa_le hr.2
  unfold ratV at *
  refine ev_fn Tryz.func27 comp27 (show 1 ≤ Tryz.f27.ntmps by decide) ?_; unfold cf27 rf27; simp only [↓EVP0, EVQ0, EVQ1, EVQ2, EVQ3, EVQ4, EVA, EVK, EVFR, ↓reduceIte, Nat.reduceEqDiff, Nat.reduceAdd, Nat.reduceSub, Nat.reduceMul, Nat.reduceLT, Nat.reduceLeDiff, reduceCtorEq, Int.reduceToNat, Int.reduceLT, Int.reduceLE, Int.reduceAdd, Int.reduceSub, Int.reduceMul, Int.reduceNeg, Int.reduceEq, Nat.reduceMod, forall_eq_or_imp, forall_eq, forall_const, EVY, true_imp_iff, implies_true, Int.cast_ofNat_Int, forall_eq']
  refine callK_ro (h1) ?_ ?_
  · simp only [↓EVP0, EVQ0, EVQ1, EVQ2, EVQ3, EVQ4, EVA, EVK, EVFR, ↓reduceIte, Nat.reduceEqDiff, Nat.reduceAdd, Nat.reduceSub, Nat.reduceMul, Nat.reduceLT, Nat.reduceLeDiff, reduceCtorEq, Int.reduceToNat, Int.reduceLT, Int.reduceLE, Int.reduceAdd, Int.reduceSub, Int.reduceMul, Int.reduceNeg, Int.reduceEq, Nat.reduceMod, forall_eq_or_imp, forall_eq, forall_const, EVY, true_imp_iff, implies_true, Int.cast_ofNat_Int, forall_eq']
  simp only [↓EVP0, EVQ0, EVQ1, EVQ2, EVQ3, EVQ4, EVA, EVK, EVFR, ↓reduceIte, Nat.reduceEqDiff, Nat.reduceAdd, Nat.reduceSub, Nat.reduceMul, Nat.reduceLT, Nat.reduceLeDiff, reduceCtorEq, Int.reduceToNat, Int.reduceLT, Int.reduceLE, Int.reduceAdd, Int.reduceSub, Int.reduceMul, Int.reduceNeg, Int.reduceEq, Nat.reduceMod, forall_eq_or_imp, forall_eq, forall_const, EVY, true_imp_iff, implies_true, Int.cast_ofNat_Int, forall_eq']
  have ht : txtQ r = if (fullR r).d = 1 then Lib.itoa (fullR r).n else Lib.itoa (fullR r).n ++ 47 :: Lib.itoa (fullR r).d := by
    unfold txtQ fullR
    rw [if_pos hv]
    by_cases e : r.d = 0
    · have h0 : r.n = 0 := by
        unfold vldR at hv
        simp only [Bool.or_eq_true, Bool.and_eq_true, decide_eq_true_eq] at hv
        omega
      rw [if_pos e, if_neg (by omega), h0]; rfl
    · rw [if_neg e]
      by_cases e1 : r.d = 1
      · rw [if_neg (by omega), if_pos e1]
      · rw [if_pos (by omega), if_neg e1]
  have hf : -1152921504606846976 ≤ (fullR r).n ∧ (fullR r).n ≤ 1152921504606846976 ∧ 0 < (fullR r).d ∧ (fullR r).d ≤ 1152921504606846976 := by
    unfold fullR
    split
    · simp
    · omega
  rw [ht]
  generalize fullR r = q at *
  have k1 := h2 q.n ⟨by omega, by omega⟩
  have k2 := h2 q.d ⟨by omega, by omega⟩
  have m1 := itoa_le (n := q.n) (by unfold In64; omega)
  have m2 := itoa_le (n := q.d) (by unfold In64; omega)
  refine ⟨fun hg => ?_, fun hg => ?_⟩
  · refine callK_ro (k1) ?_ ?_
    · simp only [↓EVP0, EVQ0, EVQ1, EVQ2, EVQ3, EVQ4, EVA, EVK, EVFR, ↓reduceIte, Nat.reduceEqDiff, Nat.reduceAdd, Nat.reduceSub, Nat.reduceMul, Nat.reduceLT, Nat.reduceLeDiff, reduceCtorEq, Int.reduceToNat, Int.reduceLT, Int.reduceLE, Int.reduceAdd, Int.reduceSub, Int.reduceMul, Int.reduceNeg, Int.reduceEq, Nat.reduceMod, forall_eq_or_imp, forall_eq, forall_const, EVY, true_imp_iff, implies_true, Int.cast_ofNat_Int, forall_eq']
    simp only [↓EVP0, EVQ0, EVQ1, EVQ2, EVQ3, EVQ4, EVA, EVK, EVFR, ↓reduceIte, Nat.reduceEqDiff, Nat.reduceAdd, Nat.reduceSub, Nat.reduceMul, Nat.reduceLT, Nat.reduceLeDiff, reduceCtorEq, Int.reduceToNat, Int.reduceLT, Int.reduceLE, Int.reduceAdd, Int.reduceSub, Int.reduceMul, Int.reduceNeg, Int.reduceEq, Nat.reduceMod, forall_eq_or_imp, forall_eq, forall_const, EVY, true_imp_iff, implies_true, Int.cast_ofNat_Int, forall_eq']
    rw [if_pos (of_decide_eq_true hg)]
  · first | refine qCallK_ro (k1) ?_ ?_ | refine eCallK_ro (k1) ?_ ?_
    · simp only [↓EVP0, EVQ0, EVQ1, EVQ2, EVQ3, EVQ4, EVA, EVK, EVFR, ↓reduceIte, Nat.reduceEqDiff, Nat.reduceAdd, Nat.reduceSub, Nat.reduceMul, Nat.reduceLT, Nat.reduceLeDiff, reduceCtorEq, Int.reduceToNat, Int.reduceLT, Int.reduceLE, Int.reduceAdd, Int.reduceSub, Int.reduceMul, Int.reduceNeg, Int.reduceEq, Nat.reduceMod, forall_eq_or_imp, forall_eq, forall_const, EVY, true_imp_iff, implies_true, Int.cast_ofNat_Int, forall_eq']
    simp only [↓EVP0, EVQ0, EVQ1, EVQ2, EVQ3, EVQ4, EVA, EVK, EVFR, ↓reduceIte, Nat.reduceEqDiff, Nat.reduceAdd, Nat.reduceSub, Nat.reduceMul, Nat.reduceLT, Nat.reduceLeDiff, reduceCtorEq, Int.reduceToNat, Int.reduceLT, Int.reduceLE, Int.reduceAdd, Int.reduceSub, Int.reduceMul, Int.reduceNeg, Int.reduceEq, Nat.reduceMod, forall_eq_or_imp, forall_eq, forall_const, EVY, true_imp_iff, implies_true, Int.cast_ofNat_Int, forall_eq']
    have c1 : (⟨#[47]⟩ : ByteArray) = strB [47] := rfl
    rw [c1, strB_app, strB_size, strB_size, if_neg (of_decide_eq_false hg)]
    refine ⟨by simp only [List.length_singleton]; omega, ?_⟩
    first | refine qCallK_ro (k2) ?_ ?_ | refine eCallK_ro (k2) ?_ ?_
    · simp only [↓EVP0, EVQ0, EVQ1, EVQ2, EVQ3, EVQ4, EVA, EVK, EVFR, ↓reduceIte, Nat.reduceEqDiff, Nat.reduceAdd, Nat.reduceSub, Nat.reduceMul, Nat.reduceLT, Nat.reduceLeDiff, reduceCtorEq, Int.reduceToNat, Int.reduceLT, Int.reduceLE, Int.reduceAdd, Int.reduceSub, Int.reduceMul, Int.reduceNeg, Int.reduceEq, Nat.reduceMod, forall_eq_or_imp, forall_eq, forall_const, EVY, true_imp_iff, implies_true, Int.cast_ofNat_Int, forall_eq']
    simp only [↓EVP0, EVQ0, EVQ1, EVQ2, EVQ3, EVQ4, EVA, EVK, EVFR, ↓reduceIte, Nat.reduceEqDiff, Nat.reduceAdd, Nat.reduceSub, Nat.reduceMul, Nat.reduceLT, Nat.reduceLeDiff, reduceCtorEq, Int.reduceToNat, Int.reduceLT, Int.reduceLE, Int.reduceAdd, Int.reduceSub, Int.reduceMul, Int.reduceNeg, Int.reduceEq, Nat.reduceMod, forall_eq_or_imp, forall_eq, forall_const, EVY, true_imp_iff, implies_true, Int.cast_ofNat_Int, forall_eq']
    rw [strB_app, strB_size, strB_size, List.length_append]
    refine ⟨by simp only [List.length_singleton]; omega, ?_⟩
    rw [List.append_assoc]
    rfl
end Go.Proofs.YtdfiicpikcdokaaGreatDoor
namespace Go.Proofs.YtdfiicpikcdokaaGreatDoor
set_option linter.unusedSimpArgs false
set_option linter.unusedVariables false
open Go.RowKit
set_option maxRecDepth 20000

theorem sb_str (s : By) (i : Nat) : sbyte (strB s) i = s.getD i 0 := by
  simp [sbyte, strB]
theorem lwp_loopBr {P : Program} {nb : Nat} {a : LC} {E : Nat → LS → LH → Prop} {T : LS → LH → Prop} {s s' : LS} {h h' : LH} {c : Bool}
    {α : Type} (I : α → Prop) (sv : α → List (Nat × LV)) (ho : α → List (Nat × LO)) (μ : α → Nat) (x0 x1 : α) (h0 : c = true → I x0) (h01 : c = false → I x1) (h1 : c = true → weakTo s h (sv x0) (ho x0)) (h11 : c = false → weakTo s' h' (sv x1) (ho x1)) (h2 : ∀ x, nb ≤ (ho x).length)
    (h3 : ∀ x, I x → lwp P nb a (fun s' h' => ∃ y, I y ∧ weakTo s' h' (sv y) (ho y) ∧ μ y < μ x) E T (mkS (sv x)) (mkH (ho x))) : Br c (@lwpL P nb a ⟨E, T⟩ s h) (@lwpL P nb a ⟨E, T⟩ s' h') :=
  ⟨fun hc => lwp_loop I sv ho μ x0 (h0 hc) (h1 hc) h2 h3, fun hc => lwp_loop I sv ho μ x1 (h01 hc) (h11 hc) h2 h3⟩
structure Qst where
  i : Nat
  p : Nat
  a : Int
  b : Int
structure QI (s : By) (R : Option (Nat × Int × Int)) (x : Qst) : Prop where
  i : x.i ≤ s.length
  p : x.p ≤ 1
  a : 0 ≤ x.a
  a2 : x.a ≤ 1441151880758558729
  b : 0 ≤ x.b
  b2 : x.b ≤ 1441151880758558729
  r : rlQ (s.drop x.i) x.p x.a x.b = R
theorem rl_end {s : By} {i p : Nat} {a b : Int} {Q : Option (Nat × Int × Int)} (hr : rlQ (s.drop i) p a b = Q) (h : ¬ (i : Int) < s.length) : Q = some (p, a, b) := by
  rw [List.drop_eq_nil_of_le (by omega)] at hr
  exact hr.symm
theorem rl_step {s : By} {i p : Nat} {a b : Int} {Q : Option (Nat × Int × Int)} (hr : rlQ (s.drop i) p a b = Q) (h : i < s.length) : (if s.getD i 0 = 47 ∧ p = 0 then rlQ (s.drop (i + 1)) 1 a b else if (s.getD i 0).toNat < 48 ∨ 57 < (s.getD i 0).toNat ∨ 144115188075855872 < (if p = 0 then a else b) then none else
      if p = 0 then rlQ (s.drop (i + 1)) p (10 * a + (((s.getD i 0).toNat : Int) - 48)) b else rlQ (s.drop (i + 1)) p a (10 * b + (((s.getD i 0).toNat : Int) - 48))) = Q := by
  rw [List.drop_eq_getElem_cons h] at hr
  rw [List.getD_eq_getElem?_getD, List.getElem?_eq_getElem h]
  exact hr
theorem u8w {c : UInt8} (h1 : 48 ≤ c.toNat) : IntKind.u8.wrap ((c.toNat : Int) - 48) = (c.toNat : Int) - 48 := by
  have := c.toNat_lt
  unfold IntKind.wrap
  simp [IntKind.bits, IntKind.signed]
  omega
theorem b47 {c : UInt8} : ((c.toNat : Int) = 47) ↔ c = 47 := ⟨fun h => UInt8.toNat_inj.1 (by rw [show (47 : UInt8).toNat = 47 from rfl]; omega), fun h => by rw [h]; rfl⟩
theorem rp_fin {n d : Int} {R : Option Rt} {s : By} (hR : R = if d ≠ 0 ∧ vldR ⟨n, d⟩ = true ∧ txtQ ⟨n, d⟩ = s then some ⟨n, d⟩ else none) {c : Bool} (hc : c = !decide (d ≠ 0 ∧ vldR ⟨n, d⟩ = true ∧ txtQ ⟨n, d⟩ = s)) :
    Br c ((0 = (R.getD ⟨0, 0⟩).n ∧ 0 = (R.getD ⟨0, 0⟩).d) ∧ false = R.isSome) ((n = (R.getD ⟨0, 0⟩).n ∧ d = (R.getD ⟨0, 0⟩).d) ∧ true = R.isSome) := by
  subst hc hR
  by_cases h : d ≠ 0 ∧ vldR ⟨n, d⟩ = true ∧ txtQ ⟨n, d⟩ = s
  · rw [if_pos h, decide_eq_true h]
    exact ⟨fun h => by simp at h, fun _ => ⟨⟨rfl, rfl⟩, rfl⟩⟩
  · rw [if_neg h, decide_eq_false h]
    exact ⟨fun _ => ⟨⟨rfl, rfl⟩, rfl⟩, fun h => by simp at h⟩
theorem ev_rparse (s : By) (hs : s.length ≤ 4000000000000000000) : Ev Tryz.prog 31 [.sc (.string (strB s))] (.tup [ratV ((rpQ s).getD ⟨0, 0⟩), .sc (.bool (rpQ s).isSome)]) := by
  unfold ratV
  refine ev_fn Tryz.func31 comp31 (show 1 ≤ Tryz.f31.ntmps by decide) ?_; unfold cf31 rf31; simp only [↓EVP0, EVQ0, EVQ1, EVQ2, EVQ3, EVQ4, EVA, EVK, EVFR, ↓reduceIte, Nat.reduceEqDiff, Nat.reduceAdd, Nat.reduceSub, Nat.reduceMul, Nat.reduceLT, Nat.reduceLeDiff, reduceCtorEq, Int.reduceToNat, Int.reduceLT, Int.reduceLE, Int.reduceAdd, Int.reduceSub, Int.reduceMul, Int.reduceNeg, Int.reduceEq, Nat.reduceMod, forall_eq_or_imp, forall_eq, forall_const, EVY, true_imp_iff, implies_true, Int.cast_ofNat_Int, forall_eq']
  rw [strB_size, sb_str]
  refine ⟨fun h => by have := of_decide_eq_true h; omega, ?_⟩
  have hc : (bif decide (0 < (s.length : Int)) then decide (((s.getD 0 0).toNat : Int) = 45) else false) = decide (s.head? = some 45) := by
    cases s with
    | nil => rfl
    | cons c r =>
      rw [List.getD_cons_zero, decide_eq_true (show (0 : Int) < ((c :: r).length : Nat) by simp only [List.length_cons]; omega), cond_true]
      refine decide_eq_decide.2 ⟨fun h => ?_, fun h => ?_⟩
      · rw [List.head?_cons, show c = 45 from UInt8.toNat_inj.1 (by rw [show (45 : UInt8).toNat = 45 from rfl]; omega)]
      · simp only [List.head?_cons, Option.some.injEq] at h
        rw [h]; rfl
  rw [hc]
  have hR : rpQ s = match rlQ (if s.head? = some 45 then s.drop 1 else s) 0 0 0 with
    | none => none
    | some (p, a, b) => if (if p = 0 then (1 : Int) else b) ≠ 0 ∧ vldR ⟨if s.head? = some 45 then -a else a, if p = 0 then 1 else b⟩ = true ∧ txtQ ⟨if s.head? = some 45 then -a else a, if p = 0 then 1 else b⟩ = s then some ⟨if s.head? = some 45 then -a else a, if p = 0 then 1 else b⟩ else none := rfl
  generalize rpQ s = R at *
  generalize hQ : rlQ (if s.head? = some 45 then s.drop 1 else s) 0 0 0 = Q at *
  refine lwp_loopBr (α := Qst) (QI s Q) (fun x => [(0, .sc (.string (strB s))), (2, .ptr 0 0 0 0 0), (4, .sc (.int .i64 (if s.head? = some 45 then -1 else 1))), (5, .sc (.int .i64 x.i)), (6, .ptr 1 0 0 0 0), (7, .sc (.int .i64 x.p))])
    (fun x => [(0, .box [.sc (.int .i64 0), .sc (.int .i64 0)]), (0, .box [.sc (.int .i64 x.a), .sc (.int .i64 x.b)])]) (fun x => s.length - x.i) ⟨1, 0, 0, 0⟩ ⟨0, 0, 0, 0⟩ (fun h => ?_) (fun h => ?_) (fun h => ?_) (fun h => ?_) (fun _ => Nat.zero_le _) ?_
  · have h' := of_decide_eq_true h
    have : 1 ≤ s.length := by cases s with
      | nil => simp at h'
      | cons c r => simp
    rw [if_pos h'] at hQ
    exact ⟨this, by simp, by simp, by simp, by simp, by simp, hQ⟩
  · rw [if_neg (of_decide_eq_false h)] at hQ
    exact ⟨by simp, by simp, by simp, by simp, by simp, by simp, hQ⟩
  · rw [if_pos (of_decide_eq_true h)]
    simp only [↓EVP0, EVQ0, EVQ1, EVQ2, EVQ3, EVQ4, EVA, EVK, EVFR, ↓reduceIte, Nat.reduceEqDiff, Nat.reduceAdd, Nat.reduceSub, Nat.reduceMul, Nat.reduceLT, Nat.reduceLeDiff, reduceCtorEq, Int.reduceToNat, Int.reduceLT, Int.reduceLE, Int.reduceAdd, Int.reduceSub, Int.reduceMul, Int.reduceNeg, Int.reduceEq, Nat.reduceMod, forall_eq_or_imp, forall_eq, forall_const, EVY, true_imp_iff, implies_true, Int.cast_ofNat_Int, forall_eq']
  · rw [if_neg (of_decide_eq_false h)]
    simp only [↓EVP0, EVQ0, EVQ1, EVQ2, EVQ3, EVQ4, EVA, EVK, EVFR, ↓reduceIte, Nat.reduceEqDiff, Nat.reduceAdd, Nat.reduceSub, Nat.reduceMul, Nat.reduceLT, Nat.reduceLeDiff, reduceCtorEq, Int.reduceToNat, Int.reduceLT, Int.reduceLE, Int.reduceAdd, Int.reduceSub, Int.reduceMul, Int.reduceNeg, Int.reduceEq, Nat.reduceMod, forall_eq_or_imp, forall_eq, forall_const, EVY, true_imp_iff, implies_true, Int.cast_ofNat_Int, forall_eq']
  rintro ⟨i, p, a, b⟩ ⟨hi, hp, ha, ha2, hb, hb2, hr⟩
  simp only at hi hp ha ha2 hb hb2 hr ⊢
  unfold lb31_0
  have hp2 : p = 0 ∨ p = 1 := by omega
  rcases hp2 with rfl | rfl
  · simp only [↓EVP0, EVQ0, EVQ1, EVQ2, EVQ3, EVQ4, EVA, EVK, EVFR, ↓reduceIte, Nat.reduceEqDiff, Nat.reduceAdd, Nat.reduceSub, Nat.reduceMul, Nat.reduceLT, Nat.reduceLeDiff, reduceCtorEq, Int.reduceToNat, Int.reduceLT, Int.reduceLE, Int.reduceAdd, Int.reduceSub, Int.reduceMul, Int.reduceNeg, Int.reduceEq, Nat.reduceMod, forall_eq_or_imp, forall_eq, forall_const, EVY, true_imp_iff, implies_true, Int.cast_ofNat_Int, forall_eq']
    rw [strB_size, sb_str]
    refine ⟨fun hg => ⟨⟨by omega, by have := of_decide_eq_true hg; omega⟩, fun hg2 => ?_, fun hg2 => ?_⟩, fun hg => ?_⟩
    · have hi2 : i < s.length := by have := of_decide_eq_true hg; omega
      have hst := rl_step hr hi2
      have hc : s.getD i 0 = 47 := by
        by_cases e : ((s.getD i 0).toNat : Int) = 47
        · exact b47.1 e
        · rw [decide_eq_false e] at hg2; simp at hg2
      rw [if_pos ⟨hc, rfl⟩] at hst
      exact ⟨by unfold In64; omega, ⟨i + 1, 1, a, b⟩, ⟨by simp only; omega, by simp, ha, ha2, hb, hb2, hst⟩, ⟨⟨by simp, rfl⟩, rfl⟩, by simp only; omega⟩
    · have hi2 : i < s.length := by have := of_decide_eq_true hg; omega
      have hst := rl_step hr hi2
      have hc : ¬ s.getD i 0 = 47 := by
        intro e
        rw [decide_eq_true (b47.2 e)] at hg2; simp at hg2
      rw [if_neg (fun h => hc h.1), if_pos rfl, if_pos rfl] at hst
      refine ⟨⟨by omega, hi2⟩, fun _ => ⟨by omega, hi2⟩, fun hg3 => ?_, fun hg3 => ?_⟩
      · have : (s.getD i 0).toNat < 48 ∨ 57 < (s.getD i 0).toNat ∨ 144115188075855872 < a := by
          revert hg3
          by_cases e1 : ((s.getD i 0).toNat : Int) < 48 <;> by_cases e2 : 57 < ((s.getD i 0).toNat : Int) <;> by_cases e3 : 144115188075855872 < a <;> simp [e1, e2, e3] <;> omega
        rw [if_pos this] at hst
        rw [← hst] at hR
        rw [hR]; exact ⟨⟨rfl, rfl⟩, rfl⟩
      · have h3 : ¬ (s.getD i 0).toNat < 48 ∧ ¬ 57 < (s.getD i 0).toNat ∧ ¬ 144115188075855872 < a := by
          revert hg3
          by_cases e1 : ((s.getD i 0).toNat : Int) < 48 <;> by_cases e2 : 57 < ((s.getD i 0).toNat : Int) <;> by_cases e3 : 144115188075855872 < a <;> simp [e1, e2, e3] <;> omega
        rw [if_neg (by omega)] at hst
        rw [u8w (by omega)]
        exact ⟨by unfold In64; omega, ⟨by omega, hi2⟩, by unfold In64; omega, by unfold In64; omega, by unfold In64; omega, ⟨i + 1, 0, 10 * a + (((s.getD i 0).toNat : Int) - 48), b⟩, ⟨by simp only; omega, by simp, by simp only; omega, by simp only; omega, hb, hb2, hst⟩, ⟨⟨by simp, rfl⟩, rfl⟩, by simp only; omega⟩
    · have hq := rl_end hr (of_decide_eq_false hg)
      rw [hq] at hR
      rw [show (if s.head? = some 45 then -1 else 1) * a = if s.head? = some 45 then -a else a by split <;> omega]
      simp only at hR
      have hn : In64 (if s.head? = some 45 then -a else a) := by unfold In64; split <;> omega
      generalize (if s.head? = some 45 then -a else a) = n at *
      refine ⟨hn, ?_⟩
      have k1 := ev_rvalid ⟨n, 1⟩
      have k2 := fun h => ev_rtext ⟨n, 1⟩ h
      unfold ratV at k1 k2
      (refine lops_ge_imp ?_; simp only [↓EVP0, EVQ0, EVQ1, EVQ2, EVQ3, EVQ4, EVA, EVK, EVFR, ↓reduceIte, Nat.reduceEqDiff, Nat.reduceAdd, Nat.reduceSub, Nat.reduceMul, Nat.reduceLT, Nat.reduceLeDiff, reduceCtorEq, Int.reduceToNat, Int.reduceLT, Int.reduceLE, Int.reduceAdd, Int.reduceSub, Int.reduceMul, Int.reduceNeg, Int.reduceEq, Nat.reduceMod, forall_eq_or_imp, forall_eq, forall_const, EVY, true_imp_iff, implies_true, Int.cast_ofNat_Int, forall_eq'])
      refine gCallK_ro _ (fun _ => k1) (fun _ => ?_) ?_
      · simp only [↓EVP0, EVQ0, EVQ1, EVQ2, EVQ3, EVQ4, EVA, EVK, EVFR, ↓reduceIte, Nat.reduceEqDiff, Nat.reduceAdd, Nat.reduceSub, Nat.reduceMul, Nat.reduceLT, Nat.reduceLeDiff, reduceCtorEq, Int.reduceToNat, Int.reduceLT, Int.reduceLE, Int.reduceAdd, Int.reduceSub, Int.reduceMul, Int.reduceNeg, Int.reduceEq, Nat.reduceMod, forall_eq_or_imp, forall_eq, forall_const, EVY, true_imp_iff, implies_true, Int.cast_ofNat_Int, forall_eq']
      simp only [↓EVP0, EVQ0, EVQ1, EVQ2, EVQ3, EVQ4, EVA, EVK, EVFR, ↓reduceIte, Nat.reduceEqDiff, Nat.reduceAdd, Nat.reduceSub, Nat.reduceMul, Nat.reduceLT, Nat.reduceLeDiff, reduceCtorEq, Int.reduceToNat, Int.reduceLT, Int.reduceLE, Int.reduceAdd, Int.reduceSub, Int.reduceMul, Int.reduceNeg, Int.reduceEq, Nat.reduceMod, forall_eq_or_imp, forall_eq, forall_const, EVY, true_imp_iff, implies_true, Int.cast_ofNat_Int, forall_eq']
      (refine lops_ge_imp ?_; simp only [↓EVP0, EVQ0, EVQ1, EVQ2, EVQ3, EVQ4, EVA, EVK, EVFR, ↓reduceIte, Nat.reduceEqDiff, Nat.reduceAdd, Nat.reduceSub, Nat.reduceMul, Nat.reduceLT, Nat.reduceLeDiff, reduceCtorEq, Int.reduceToNat, Int.reduceLT, Int.reduceLE, Int.reduceAdd, Int.reduceSub, Int.reduceMul, Int.reduceNeg, Int.reduceEq, Nat.reduceMod, forall_eq_or_imp, forall_eq, forall_const, EVY, true_imp_iff, implies_true, Int.cast_ofNat_Int, forall_eq'])
      refine gCallK_ro _ (fun hg => k2 ?_) (fun _ => ?_) ?_
      · revert hg
        cases vldR _ <;> simp
      · simp only [↓EVP0, EVQ0, EVQ1, EVQ2, EVQ3, EVQ4, EVA, EVK, EVFR, ↓reduceIte, Nat.reduceEqDiff, Nat.reduceAdd, Nat.reduceSub, Nat.reduceMul, Nat.reduceLT, Nat.reduceLeDiff, reduceCtorEq, Int.reduceToNat, Int.reduceLT, Int.reduceLE, Int.reduceAdd, Int.reduceSub, Int.reduceMul, Int.reduceNeg, Int.reduceEq, Nat.reduceMod, forall_eq_or_imp, forall_eq, forall_const, EVY, true_imp_iff, implies_true, Int.cast_ofNat_Int, forall_eq']
      simp only [↓EVP0, EVQ0, EVQ1, EVQ2, EVQ3, EVQ4, EVA, EVK, EVFR, ↓reduceIte, Nat.reduceEqDiff, Nat.reduceAdd, Nat.reduceSub, Nat.reduceMul, Nat.reduceLT, Nat.reduceLeDiff, reduceCtorEq, Int.reduceToNat, Int.reduceLT, Int.reduceLE, Int.reduceAdd, Int.reduceSub, Int.reduceMul, Int.reduceNeg, Int.reduceEq, Nat.reduceMod, forall_eq_or_imp, forall_eq, forall_const, EVY, true_imp_iff, implies_true, Int.cast_ofNat_Int, forall_eq']
      refine rp_fin hR ?_
      rw [show decide (strB (txtQ ⟨n, 1⟩) = strB s) = decide (txtQ ⟨n, 1⟩ = s) from decide_eq_decide.2 ⟨fun h => strB_inj h, fun h => by rw [h]⟩]
      by_cases e1 : vldR ⟨n, 1⟩ = true <;> by_cases e2 : txtQ ⟨n, 1⟩ = s <;> simp [e1, e2]
  · simp only [↓EVP0, EVQ0, EVQ1, EVQ2, EVQ3, EVQ4, EVA, EVK, EVFR, ↓reduceIte, Nat.reduceEqDiff, Nat.reduceAdd, Nat.reduceSub, Nat.reduceMul, Nat.reduceLT, Nat.reduceLeDiff, reduceCtorEq, Int.reduceToNat, Int.reduceLT, Int.reduceLE, Int.reduceAdd, Int.reduceSub, Int.reduceMul, Int.reduceNeg, Int.reduceEq, Nat.reduceMod, forall_eq_or_imp, forall_eq, forall_const, EVY, true_imp_iff, implies_true, Int.cast_ofNat_Int, forall_eq']
    rw [strB_size, sb_str]
    refine ⟨fun hg => ⟨⟨by omega, by have := of_decide_eq_true hg; omega⟩, fun hg2 => ?_, fun hg2 => ?_⟩, fun hg => ?_⟩
    · simp at hg2
    · have hi2 : i < s.length := by have := of_decide_eq_true hg; omega
      have hst := rl_step hr hi2
      rw [if_neg (by simp)] at hst
      simp only [show ¬ (1 : Nat) = 0 by omega, if_false] at hst
      refine ⟨⟨by omega, hi2⟩, fun _ => ⟨by omega, hi2⟩, fun hg3 => ?_, fun hg3 => ?_⟩
      · have : (s.getD i 0).toNat < 48 ∨ 57 < (s.getD i 0).toNat ∨ 144115188075855872 < b := by
          revert hg3
          by_cases e1 : ((s.getD i 0).toNat : Int) < 48 <;> by_cases e2 : 57 < ((s.getD i 0).toNat : Int) <;> by_cases e3 : 144115188075855872 < b <;> simp [e1, e2, e3] <;> omega
        rw [if_pos this] at hst
        rw [← hst] at hR
        rw [hR]; exact ⟨⟨rfl, rfl⟩, rfl⟩
      · have h3 : ¬ (s.getD i 0).toNat < 48 ∧ ¬ 57 < (s.getD i 0).toNat ∧ ¬ 144115188075855872 < b := by
          revert hg3
          by_cases e1 : ((s.getD i 0).toNat : Int) < 48 <;> by_cases e2 : 57 < ((s.getD i 0).toNat : Int) <;> by_cases e3 : 144115188075855872 < b <;> simp [e1, e2, e3] <;> omega
        rw [if_neg (by omega)] at hst
        rw [u8w (by omega)]
        exact ⟨by unfold In64; omega, ⟨by omega, hi2⟩, by unfold In64; omega, by unfold In64; omega, by unfold In64; omega, ⟨i + 1, 1, a, 10 * b + (((s.getD i 0).toNat : Int) - 48)⟩, ⟨by simp only; omega, by simp, ha, ha2, by simp only; omega, by simp only; omega, hst⟩, ⟨⟨by simp, rfl⟩, rfl⟩, by simp only; omega⟩
    · have hq := rl_end hr (of_decide_eq_false hg)
      rw [hq] at hR
      rw [show (if s.head? = some 45 then -1 else 1) * a = if s.head? = some 45 then -a else a by split <;> omega]
      simp only at hR
      have hn : In64 (if s.head? = some 45 then -a else a) := by unfold In64; split <;> omega
      generalize (if s.head? = some 45 then -a else a) = n at *
      refine ⟨hn, ?_⟩
      have k1 := ev_rvalid ⟨n, b⟩
      have k2 := fun h => ev_rtext ⟨n, b⟩ h
      unfold ratV at k1 k2
      (refine lops_ge_imp ?_; simp only [↓EVP0, EVQ0, EVQ1, EVQ2, EVQ3, EVQ4, EVA, EVK, EVFR, ↓reduceIte, Nat.reduceEqDiff, Nat.reduceAdd, Nat.reduceSub, Nat.reduceMul, Nat.reduceLT, Nat.reduceLeDiff, reduceCtorEq, Int.reduceToNat, Int.reduceLT, Int.reduceLE, Int.reduceAdd, Int.reduceSub, Int.reduceMul, Int.reduceNeg, Int.reduceEq, Nat.reduceMod, forall_eq_or_imp, forall_eq, forall_const, EVY, true_imp_iff, implies_true, Int.cast_ofNat_Int, forall_eq'])
      refine gCallK_ro _ (fun _ => k1) (fun _ => ?_) ?_
      · simp only [↓EVP0, EVQ0, EVQ1, EVQ2, EVQ3, EVQ4, EVA, EVK, EVFR, ↓reduceIte, Nat.reduceEqDiff, Nat.reduceAdd, Nat.reduceSub, Nat.reduceMul, Nat.reduceLT, Nat.reduceLeDiff, reduceCtorEq, Int.reduceToNat, Int.reduceLT, Int.reduceLE, Int.reduceAdd, Int.reduceSub, Int.reduceMul, Int.reduceNeg, Int.reduceEq, Nat.reduceMod, forall_eq_or_imp, forall_eq, forall_const, EVY, true_imp_iff, implies_true, Int.cast_ofNat_Int, forall_eq']
      simp only [↓EVP0, EVQ0, EVQ1, EVQ2, EVQ3, EVQ4, EVA, EVK, EVFR, ↓reduceIte, Nat.reduceEqDiff, Nat.reduceAdd, Nat.reduceSub, Nat.reduceMul, Nat.reduceLT, Nat.reduceLeDiff, reduceCtorEq, Int.reduceToNat, Int.reduceLT, Int.reduceLE, Int.reduceAdd, Int.reduceSub, Int.reduceMul, Int.reduceNeg, Int.reduceEq, Nat.reduceMod, forall_eq_or_imp, forall_eq, forall_const, EVY, true_imp_iff, implies_true, Int.cast_ofNat_Int, forall_eq']
      (refine lops_ge_imp ?_; simp only [↓EVP0, EVQ0, EVQ1, EVQ2, EVQ3, EVQ4, EVA, EVK, EVFR, ↓reduceIte, Nat.reduceEqDiff, Nat.reduceAdd, Nat.reduceSub, Nat.reduceMul, Nat.reduceLT, Nat.reduceLeDiff, reduceCtorEq, Int.reduceToNat, Int.reduceLT, Int.reduceLE, Int.reduceAdd, Int.reduceSub, Int.reduceMul, Int.reduceNeg, Int.reduceEq, Nat.reduceMod, forall_eq_or_imp, forall_eq, forall_const, EVY, true_imp_iff, implies_true, Int.cast_ofNat_Int, forall_eq'])
      refine gCallK_ro _ (fun hg => k2 ?_) (fun _ => ?_) ?_
      · revert hg
        cases vldR _ <;> simp
      · simp only [↓EVP0, EVQ0, EVQ1, EVQ2, EVQ3, EVQ4, EVA, EVK, EVFR, ↓reduceIte, Nat.reduceEqDiff, Nat.reduceAdd, Nat.reduceSub, Nat.reduceMul, Nat.reduceLT, Nat.reduceLeDiff, reduceCtorEq, Int.reduceToNat, Int.reduceLT, Int.reduceLE, Int.reduceAdd, Int.reduceSub, Int.reduceMul, Int.reduceNeg, Int.reduceEq, Nat.reduceMod, forall_eq_or_imp, forall_eq, forall_const, EVY, true_imp_iff, implies_true, Int.cast_ofNat_Int, forall_eq']
      simp only [↓EVP0, EVQ0, EVQ1, EVQ2, EVQ3, EVQ4, EVA, EVK, EVFR, ↓reduceIte, Nat.reduceEqDiff, Nat.reduceAdd, Nat.reduceSub, Nat.reduceMul, Nat.reduceLT, Nat.reduceLeDiff, reduceCtorEq, Int.reduceToNat, Int.reduceLT, Int.reduceLE, Int.reduceAdd, Int.reduceSub, Int.reduceMul, Int.reduceNeg, Int.reduceEq, Nat.reduceMod, forall_eq_or_imp, forall_eq, forall_const, EVY, true_imp_iff, implies_true, Int.cast_ofNat_Int, forall_eq']
      refine rp_fin hR ?_
      rw [show decide (strB (txtQ ⟨n, b⟩) = strB s) = decide (txtQ ⟨n, b⟩ = s) from decide_eq_decide.2 ⟨fun h => strB_inj h, fun h => by rw [h]⟩]
      by_cases e0 : b = 0 <;> by_cases e1 : vldR ⟨n, b⟩ = true <;> by_cases e2 : txtQ ⟨n, b⟩ = s <;> simp [e0, e1, e2]
end Go.Proofs.YtdfiicpikcdokaaGreatDoor
