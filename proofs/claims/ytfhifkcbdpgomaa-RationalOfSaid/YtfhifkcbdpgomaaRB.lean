/- The product of two numbers of 64 bits; comparing numbers of 128 bits. Conditions: none. -/
import Derived.Test.YtfhifkcbdpgomaaRA
import Derived.Laws.Externs
import Derived.Shelf.Spec.BitsCarry
namespace Go.Proofs.Ytfhifkcbdpgomaa
set_option linter.unusedSimpArgs false
set_option linter.unusedVariables false
open Go.RowKit
set_option maxRecDepth 20000

theorem split_mul (a b : Nat) : a * b = (a / 4294967296) * (b / 4294967296) * 18446744073709551616 + ((a / 4294967296) * (b % 4294967296) + (a % 4294967296) * (b / 4294967296)) * 4294967296 + (a % 4294967296) * (b % 4294967296) := by
  have h1 := Nat.div_add_mod a 4294967296
  have h2 := Nat.div_add_mod b 4294967296
  generalize a / 4294967296 = x1 at *
  generalize a % 4294967296 = x0 at *
  generalize b / 4294967296 = y1 at *
  generalize b % 4294967296 = y0 at *
  subst h1; subst h2
  rw [Nat.add_mul, Nat.mul_add, Nat.mul_add]
  have e1 : 4294967296 * x1 * (4294967296 * y1) = x1 * y1 * 18446744073709551616 := by
    rw [Nat.mul_mul_mul_comm, Nat.mul_comm]
  have e2 : 4294967296 * x1 * y0 = x1 * y0 * 4294967296 := by rw [Nat.mul_assoc, Nat.mul_comm]
  have e3 : x0 * (4294967296 * y1) = x0 * y1 * 4294967296 := by rw [← Nat.mul_assoc, Nat.mul_comm x0, Nat.mul_assoc, Nat.mul_comm]
  rw [e1, e2, e3]
  omega
theorem mul_le_32 {a b : Nat} (ha : a < 4294967296) (hb : b < 4294967296) : a * b ≤ 18446744065119617025 := Nat.le_trans (Nat.mul_le_mul (Nat.le_sub_one_of_lt ha) (Nat.le_sub_one_of_lt hb)) (by decide)
theorem ev_mul64 (a b : Nat) (ha : a < 18446744073709551616) (hb : b < 18446744073709551616) : Ev Try.prog 37 [U64 a, U64 b] (.tup [U64 (a * b / 18446744073709551616), U64 (a * b % 18446744073709551616)]) := by
  refine ev_fn Try.func37 comp37 (show 2 ≤ Try.f37.ntmps by decide) ?_; unfold cf37 rf37; simp only [↓EVP0, EVQ0, EVQ1, EVQ2, EVQ3, EVQ4, EVA, EVK, EVFR, ↓reduceIte, Nat.reduceEqDiff, Nat.reduceAdd, Nat.reduceSub, Nat.reduceMul, Nat.reduceLT, Nat.reduceLeDiff, reduceCtorEq, Int.reduceToNat, Int.reduceLT, Int.reduceLE, Int.reduceAdd, Int.reduceSub, Int.reduceMul, Int.reduceNeg, Int.reduceEq, Nat.reduceMod, forall_eq_or_imp, forall_eq, forall_const, cond_true, cond_false, decide_true, decide_false, true_imp_iff, implies_true, Int.cast_ofNat_Int, forall_eq']
  have h := split_mul a b
  have b11 := mul_le_32 (a := a / 4294967296) (b := b / 4294967296) (by omega) (by omega)
  have b10 := mul_le_32 (a := a / 4294967296) (b := b % 4294967296) (by omega) (by omega)
  have b01 := mul_le_32 (a := a % 4294967296) (b := b / 4294967296) (by omega) (by omega)
  have b00 := mul_le_32 (a := a % 4294967296) (b := b % 4294967296) (by omega) (by omega)
  rw [show (a : Int) / 4294967296 = ((a / 4294967296 : Nat) : Int) by omega, show (b : Int) / 4294967296 = ((b / 4294967296 : Nat) : Int) by omega, show (a : Int) % 4294967296 = ((a % 4294967296 : Nat) : Int) by omega, show (b : Int) % 4294967296 = ((b % 4294967296 : Nat) : Int) by omega]
  simp only [← Int.natCast_mul]
  generalize a / 4294967296 * (b / 4294967296) = p11 at *
  generalize a / 4294967296 * (b % 4294967296) = p10 at *
  generalize a % 4294967296 * (b / 4294967296) = p01 at *
  generalize a % 4294967296 * (b % 4294967296) = p00 at *
  generalize a * b = m at *
  omega
def B64 : Nat := 18446744073709551616
/-- A number of 128 bits with a sign. -/
def wV (s : Bool) (m : Nat) : LV := .agg [.sc (.bool s), U64 (m / 18446744073709551616), U64 (m % 18446744073709551616)]
theorem ev_product (n : Int) (f : Nat) (hn : In64 n) (hf : f < 18446744073709551616) : Ev Try.prog 34 [.sc (.int .i64 n), U64 f] (wV (decide (n < 0)) (mag n * f)) := by
  have h1 := ev_size n hn
  have h2 := ev_mul64 (mag n) f (by have := mag_le hn; omega) hf
  unfold wV
  refine ev_fn Try.func34 comp34 (show 2 ≤ Try.f34.ntmps by decide) ?_; unfold cf34 rf34; simp only [↓EVP0, EVQ0, EVQ1, EVQ2, EVQ3, EVQ4, EVA, EVK, EVFR, ↓reduceIte, Nat.reduceEqDiff, Nat.reduceAdd, Nat.reduceSub, Nat.reduceMul, Nat.reduceLT, Nat.reduceLeDiff, reduceCtorEq, Int.reduceToNat, Int.reduceLT, Int.reduceLE, Int.reduceAdd, Int.reduceSub, Int.reduceMul, Int.reduceNeg, Int.reduceEq, Nat.reduceMod, forall_eq_or_imp, forall_eq, forall_const, cond_true, cond_false, decide_true, decide_false, true_imp_iff, implies_true, Int.cast_ofNat_Int, forall_eq']
  refine callK_ro (h1) ?_ ?_
  · simp only [↓EVP0, EVQ0, EVQ1, EVQ2, EVQ3, EVQ4, EVA, EVK, EVFR, ↓reduceIte, Nat.reduceEqDiff, Nat.reduceAdd, Nat.reduceSub, Nat.reduceMul, Nat.reduceLT, Nat.reduceLeDiff, reduceCtorEq, Int.reduceToNat, Int.reduceLT, Int.reduceLE, Int.reduceAdd, Int.reduceSub, Int.reduceMul, Int.reduceNeg, Int.reduceEq, Nat.reduceMod, forall_eq_or_imp, forall_eq, forall_const, cond_true, cond_false, decide_true, decide_false, true_imp_iff, implies_true, Int.cast_ofNat_Int, forall_eq']
  simp only [↓EVP0, EVQ0, EVQ1, EVQ2, EVQ3, EVQ4, EVA, EVK, EVFR, ↓reduceIte, Nat.reduceEqDiff, Nat.reduceAdd, Nat.reduceSub, Nat.reduceMul, Nat.reduceLT, Nat.reduceLeDiff, reduceCtorEq, Int.reduceToNat, Int.reduceLT, Int.reduceLE, Int.reduceAdd, Int.reduceSub, Int.reduceMul, Int.reduceNeg, Int.reduceEq, Nat.reduceMod, forall_eq_or_imp, forall_eq, forall_const, cond_true, cond_false, decide_true, decide_false, true_imp_iff, implies_true, Int.cast_ofNat_Int, forall_eq']
  refine callK_ro (h2) ?_ ?_
  · simp only [↓EVP0, EVQ0, EVQ1, EVQ2, EVQ3, EVQ4, EVA, EVK, EVFR, ↓reduceIte, Nat.reduceEqDiff, Nat.reduceAdd, Nat.reduceSub, Nat.reduceMul, Nat.reduceLT, Nat.reduceLeDiff, reduceCtorEq, Int.reduceToNat, Int.reduceLT, Int.reduceLE, Int.reduceAdd, Int.reduceSub, Int.reduceMul, Int.reduceNeg, Int.reduceEq, Nat.reduceMod, forall_eq_or_imp, forall_eq, forall_const, cond_true, cond_false, decide_true, decide_false, true_imp_iff, implies_true, Int.cast_ofNat_Int, forall_eq']
  simp only [↓EVP0, EVQ0, EVQ1, EVQ2, EVQ3, EVQ4, EVA, EVK, EVFR, ↓reduceIte, Nat.reduceEqDiff, Nat.reduceAdd, Nat.reduceSub, Nat.reduceMul, Nat.reduceLT, Nat.reduceLeDiff, reduceCtorEq, Int.reduceToNat, Int.reduceLT, Int.reduceLE, Int.reduceAdd, Int.reduceSub, Int.reduceMul, Int.reduceNeg, Int.reduceEq, Nat.reduceMod, forall_eq_or_imp, forall_eq, forall_const, cond_true, cond_false, decide_true, decide_false, true_imp_iff, implies_true, Int.cast_ofNat_Int, forall_eq']
def cmpN (m k : Nat) : Int := bif decide (m < k) then -1 else bif decide (m = k) then 0 else 1
theorem ev_wcmp (s t : Bool) (m k : Nat) : Ev Try.prog 42 [wV s m, wV t k] (.sc (.int .i64 (cmpN m k))) := by
  unfold wV
  refine ev_fn Try.func42 comp42 (show 2 ≤ Try.f42.ntmps by decide) ?_; unfold cf42 rf42; simp only [↓EVP0, EVQ0, EVQ1, EVQ2, EVQ3, EVQ4, EVA, EVK, EVFR, ↓reduceIte, Nat.reduceEqDiff, Nat.reduceAdd, Nat.reduceSub, Nat.reduceMul, Nat.reduceLT, Nat.reduceLeDiff, reduceCtorEq, Int.reduceToNat, Int.reduceLT, Int.reduceLE, Int.reduceAdd, Int.reduceSub, Int.reduceMul, Int.reduceNeg, Int.reduceEq, Nat.reduceMod, forall_eq_or_imp, forall_eq, forall_const, cond_true, cond_false, decide_true, decide_false, true_imp_iff, implies_true, Int.cast_ofNat_Int, forall_eq']
  unfold cmpN
  have e1 : ∀ a b : Nat, decide ((a : Int) < b) = decide (a < b) := fun a b => by simp
  have e2 : ∀ a b : Nat, decide ((a : Int) = b) = decide (a = b) := fun a b => by simp [Int.ofNat_inj]
  simp only [condT, condF, e1, e2]
  have d1 : (decide (m / 18446744073709551616 < k / 18446744073709551616) || decide (m / 18446744073709551616 = k / 18446744073709551616) && decide (m % 18446744073709551616 < k % 18446744073709551616)) = decide (m < k) := by
    rw [Bool.eq_iff_iff]; simp only [Bool.or_eq_true, Bool.and_eq_true, decide_eq_true_eq]; omega
  have d2 : (decide (m / 18446744073709551616 = k / 18446744073709551616) && decide (m % 18446744073709551616 = k % 18446744073709551616)) = decide (m = k) := by
    rw [Bool.eq_iff_iff]; simp only [Bool.or_eq_true, Bool.and_eq_true, decide_eq_true_eq]; omega
  rw [d1, d2]
  refine ⟨fun h => by rw [h]; rfl, fun h => ⟨fun h2 => by rw [h, h2]; rfl, fun h2 => by rw [h, h2]; rfl⟩⟩
theorem ev_fits (s : Bool) (m : Nat) : Ev Try.prog 46 [wV s m] (.sc (.bool (decide (m ≤ 1152921504606846976)))) := by
  unfold wV
  refine ev_fn Try.func46 comp46 (show 1 ≤ Try.f46.ntmps by decide) ?_; unfold cf46 rf46; simp only [↓EVP0, EVQ0, EVQ1, EVQ2, EVQ3, EVQ4, EVA, EVK, EVFR, ↓reduceIte, Nat.reduceEqDiff, Nat.reduceAdd, Nat.reduceSub, Nat.reduceMul, Nat.reduceLT, Nat.reduceLeDiff, reduceCtorEq, Int.reduceToNat, Int.reduceLT, Int.reduceLE, Int.reduceAdd, Int.reduceSub, Int.reduceMul, Int.reduceNeg, Int.reduceEq, Nat.reduceMod, forall_eq_or_imp, forall_eq, forall_const, cond_true, cond_false, decide_true, decide_false, true_imp_iff, implies_true, Int.cast_ofNat_Int, forall_eq']
  simp only [condF]
  rw [Bool.eq_iff_iff]; simp only [Bool.or_eq_true, Bool.and_eq_true, decide_eq_true_eq]; omega
theorem ev_signed (s : Bool) (m : Nat) (h : m ≤ 1152921504606846976) : Ev Try.prog 47 [wV s m] (.sc (.int .i64 (bif s then -(m : Int) else m))) := by
  unfold wV
  refine ev_fn Try.func47 comp47 (show 1 ≤ Try.f47.ntmps by decide) ?_; unfold cf47 rf47; simp only [↓EVP0, EVQ0, EVQ1, EVQ2, EVQ3, EVQ4, EVA, EVK, EVFR, ↓reduceIte, Nat.reduceEqDiff, Nat.reduceAdd, Nat.reduceSub, Nat.reduceMul, Nat.reduceLT, Nat.reduceLeDiff, reduceCtorEq, Int.reduceToNat, Int.reduceLT, Int.reduceLE, Int.reduceAdd, Int.reduceSub, Int.reduceMul, Int.reduceNeg, Int.reduceEq, Nat.reduceMod, forall_eq_or_imp, forall_eq, forall_const, cond_true, cond_false, decide_true, decide_false, true_imp_iff, implies_true, Int.cast_ofNat_Int, forall_eq']
  unfold In64
  refine ⟨fun g => ?_, fun g => ?_⟩ <;> subst g <;> simp only [cond_true, cond_false] <;> omega
theorem x_add64 (x y c : Nat) (hc : c ≤ 1) : XCall Try.prog 43 [U64 x, U64 y, U64 c] (.tup [U64 ((x + y + c) % 18446744073709551616), U64 ((x + y + c) / 18446744073709551616)]) := by
  intro R ι h w vs hs ha
  have h0 := (ha 0 _ rfl).sc_inv.1
  have h1 := (ha 1 _ rfl).sc_inv.1
  have h2 := (ha 2 _ rfl).sc_inv.1
  have hv : vs = #[.int .u64 x, .int .u64 y, .int .u64 c] := by
    apply Array.ext
    · simpa using hs
    · intro i hi hi2
      simp only [List.length_cons, List.length_nil] at hs
      rw [Array.getD_eq_getD_getElem?, Array.getElem?_eq_getElem (by omega)] at h0 h1 h2
      obtain rfl | rfl | rfl : i = 0 ∨ i = 1 ∨ i = 2 := by omega
      · exact h0
      · exact h1
      · exact h2
  rw [hv, run_callFunc_extern Try.func43 (by kernel_rfl) (by kernel_rfl) (by kernel_rfl) (e := add64Entry) (by kernel_rfl), run_add64 x y c (by omega) (by omega) (by omega) (by omega)]
  refine ⟨_, rfl, .tup _ _ rfl (fun i d hd => ?_)⟩
  rcases i with _ | _ | i
  · simp at hd; subst hd; exact rv_sc rfl
  · simp at hd; subst hd; exact rv_sc rfl
  · simp at hd
theorem x_sub64 (x y c : Nat) (hc : c ≤ 1) : XCall Try.prog 44 [U64 x, U64 y, U64 c] (.tup [U64 ((x + 18446744073709551616 - y - c) % 18446744073709551616), U64 (if x < y + c then 1 else 0)]) := by
  intro R ι h w vs hs ha
  have h0 := (ha 0 _ rfl).sc_inv.1
  have h1 := (ha 1 _ rfl).sc_inv.1
  have h2 := (ha 2 _ rfl).sc_inv.1
  have hv : vs = #[.int .u64 x, .int .u64 y, .int .u64 c] := by
    apply Array.ext
    · simpa using hs
    · intro i hi hi2
      simp only [List.length_cons, List.length_nil] at hs
      rw [Array.getD_eq_getD_getElem?, Array.getElem?_eq_getElem (by omega)] at h0 h1 h2
      obtain rfl | rfl | rfl : i = 0 ∨ i = 1 ∨ i = 2 := by omega
      · exact h0
      · exact h1
      · exact h2
  rw [hv, run_callFunc_extern Try.func44 (by kernel_rfl) (by kernel_rfl) (by kernel_rfl) (e := sub64Entry) (by kernel_rfl), run_sub64 x y c hc]
  refine ⟨_, rfl, .tup _ _ rfl (fun i d hd => ?_)⟩
  rcases i with _ | _ | i
  · simp at hd; subst hd; exact rv_sc rfl
  · simp at hd; subst hd; exact rv_sc rfl
  · simp at hd
theorem xCallK_of {P : Program} {f : FuncId} {al : List LV} {h : LH} {k : LV → LH → Prop} {r : LV} (he : XCall P f al r) (hk : k r h) : @xCallK P f al h ⟨k⟩ := ⟨r, he, hk⟩
/-- The sum of two numbers of 128 bits with signs. -/
def addW (s : Bool) (m : Nat) (t : Bool) (k : Nat) : Bool × Nat := bif decide (s = t) then (s, m + k) else bif decide (m < k) then (t, k - m) else (s, m - k)
theorem ev_wadd (s t : Bool) (m k : Nat) (h : m + k < 340282366920938463463374607431768211456) : Ev Try.prog 35 [wV s m, wV t k] (wV (addW s m t k).1 (addW s m t k).2) := by
  have h1 := ev_wcmp s t m k
  unfold wV at *
  refine ev_fn Try.func35 comp35 (show 2 ≤ Try.f35.ntmps by decide) ?_; unfold cf35 rf35; simp only [↓EVP0, EVQ0, EVQ1, EVQ2, EVQ3, EVQ4, EVA, EVK, EVFR, ↓reduceIte, Nat.reduceEqDiff, Nat.reduceAdd, Nat.reduceSub, Nat.reduceMul, Nat.reduceLT, Nat.reduceLeDiff, reduceCtorEq, Int.reduceToNat, Int.reduceLT, Int.reduceLE, Int.reduceAdd, Int.reduceSub, Int.reduceMul, Int.reduceNeg, Int.reduceEq, Nat.reduceMod, forall_eq_or_imp, forall_eq, forall_const, cond_true, cond_false, decide_true, decide_false, true_imp_iff, implies_true, Int.cast_ofNat_Int, forall_eq']
  refine ⟨fun hst => ?_, fun hst => ?_⟩
  · have e : addW s m t k = (s, m + k) := by
      unfold addW
      rw [show decide (s = t) = true by revert hst; cases s <;> cases t <;> simp]; rfl
    refine xCallK_of (x_add64 _ _ 0 (by omega)) ?_
    simp only [↓EVP0, EVQ0, EVQ1, EVQ2, EVQ3, EVQ4, EVA, EVK, EVFR, ↓reduceIte, Nat.reduceEqDiff, Nat.reduceAdd, Nat.reduceSub, Nat.reduceMul, Nat.reduceLT, Nat.reduceLeDiff, reduceCtorEq, Int.reduceToNat, Int.reduceLT, Int.reduceLE, Int.reduceAdd, Int.reduceSub, Int.reduceMul, Int.reduceNeg, Int.reduceEq, Nat.reduceMod, forall_eq_or_imp, forall_eq, forall_const, cond_true, cond_false, decide_true, decide_false, true_imp_iff, implies_true, Int.cast_ofNat_Int, forall_eq']
    refine xCallK_of (x_add64 _ _ _ (by omega)) ?_
    simp only [↓EVP0, EVQ0, EVQ1, EVQ2, EVQ3, EVQ4, EVA, EVK, EVFR, ↓reduceIte, Nat.reduceEqDiff, Nat.reduceAdd, Nat.reduceSub, Nat.reduceMul, Nat.reduceLT, Nat.reduceLeDiff, reduceCtorEq, Int.reduceToNat, Int.reduceLT, Int.reduceLE, Int.reduceAdd, Int.reduceSub, Int.reduceMul, Int.reduceNeg, Int.reduceEq, Nat.reduceMod, forall_eq_or_imp, forall_eq, forall_const, cond_true, cond_false, decide_true, decide_false, true_imp_iff, implies_true, Int.cast_ofNat_Int, forall_eq']
    rw [e]
    refine ⟨rfl, ?_, ?_⟩ <;> simp only <;> omega
  · have hne : decide (s = t) = false := by revert hst; cases s <;> cases t <;> simp
    refine callK_ro (h1) ?_ ?_
    · simp only [↓EVP0, EVQ0, EVQ1, EVQ2, EVQ3, EVQ4, EVA, EVK, EVFR, ↓reduceIte, Nat.reduceEqDiff, Nat.reduceAdd, Nat.reduceSub, Nat.reduceMul, Nat.reduceLT, Nat.reduceLeDiff, reduceCtorEq, Int.reduceToNat, Int.reduceLT, Int.reduceLE, Int.reduceAdd, Int.reduceSub, Int.reduceMul, Int.reduceNeg, Int.reduceEq, Nat.reduceMod, forall_eq_or_imp, forall_eq, forall_const, cond_true, cond_false, decide_true, decide_false, true_imp_iff, implies_true, Int.cast_ofNat_Int, forall_eq']
    simp only [↓EVP0, EVQ0, EVQ1, EVQ2, EVQ3, EVQ4, EVA, EVK, EVFR, ↓reduceIte, Nat.reduceEqDiff, Nat.reduceAdd, Nat.reduceSub, Nat.reduceMul, Nat.reduceLT, Nat.reduceLeDiff, reduceCtorEq, Int.reduceToNat, Int.reduceLT, Int.reduceLE, Int.reduceAdd, Int.reduceSub, Int.reduceMul, Int.reduceNeg, Int.reduceEq, Nat.reduceMod, forall_eq_or_imp, forall_eq, forall_const, cond_true, cond_false, decide_true, decide_false, true_imp_iff, implies_true, Int.cast_ofNat_Int, forall_eq']
    unfold cmpN
    refine ⟨fun g => ?_, fun g => ?_⟩
    · have hlt : m < k := by
        by_cases hlt : m < k
        · exact hlt
        · rw [decide_eq_false hlt, cond_false] at g
          cases h' : decide (m = k) <;> rw [h'] at g <;> simp at g
      have e : addW s m t k = (t, k - m) := by unfold addW; rw [hne, decide_eq_true hlt]; rfl
      refine xCallK_of (x_sub64 _ _ 0 (by omega)) ?_
      simp only [↓EVP0, EVQ0, EVQ1, EVQ2, EVQ3, EVQ4, EVA, EVK, EVFR, ↓reduceIte, Nat.reduceEqDiff, Nat.reduceAdd, Nat.reduceSub, Nat.reduceMul, Nat.reduceLT, Nat.reduceLeDiff, reduceCtorEq, Int.reduceToNat, Int.reduceLT, Int.reduceLE, Int.reduceAdd, Int.reduceSub, Int.reduceMul, Int.reduceNeg, Int.reduceEq, Nat.reduceMod, forall_eq_or_imp, forall_eq, forall_const, cond_true, cond_false, decide_true, decide_false, true_imp_iff, implies_true, Int.cast_ofNat_Int, forall_eq']
      refine xCallK_of (x_sub64 _ _ _ (by split <;> omega)) ?_
      simp only [↓EVP0, EVQ0, EVQ1, EVQ2, EVQ3, EVQ4, EVA, EVK, EVFR, ↓reduceIte, Nat.reduceEqDiff, Nat.reduceAdd, Nat.reduceSub, Nat.reduceMul, Nat.reduceLT, Nat.reduceLeDiff, reduceCtorEq, Int.reduceToNat, Int.reduceLT, Int.reduceLE, Int.reduceAdd, Int.reduceSub, Int.reduceMul, Int.reduceNeg, Int.reduceEq, Nat.reduceMod, forall_eq_or_imp, forall_eq, forall_const, cond_true, cond_false, decide_true, decide_false, true_imp_iff, implies_true, Int.cast_ofNat_Int, forall_eq']
      rw [e]
      refine ⟨rfl, ?_, ?_⟩ <;> simp only
      · split <;> omega
      · omega
    · have hlt : ¬ m < k := by
        intro hlt
        rw [decide_eq_true hlt] at g
        simp at g
      have e : addW s m t k = (s, m - k) := by unfold addW; rw [hne, decide_eq_false hlt]; rfl
      refine xCallK_of (x_sub64 _ _ 0 (by omega)) ?_
      simp only [↓EVP0, EVQ0, EVQ1, EVQ2, EVQ3, EVQ4, EVA, EVK, EVFR, ↓reduceIte, Nat.reduceEqDiff, Nat.reduceAdd, Nat.reduceSub, Nat.reduceMul, Nat.reduceLT, Nat.reduceLeDiff, reduceCtorEq, Int.reduceToNat, Int.reduceLT, Int.reduceLE, Int.reduceAdd, Int.reduceSub, Int.reduceMul, Int.reduceNeg, Int.reduceEq, Nat.reduceMod, forall_eq_or_imp, forall_eq, forall_const, cond_true, cond_false, decide_true, decide_false, true_imp_iff, implies_true, Int.cast_ofNat_Int, forall_eq']
      refine xCallK_of (x_sub64 _ _ _ (by split <;> omega)) ?_
      simp only [↓EVP0, EVQ0, EVQ1, EVQ2, EVQ3, EVQ4, EVA, EVK, EVFR, ↓reduceIte, Nat.reduceEqDiff, Nat.reduceAdd, Nat.reduceSub, Nat.reduceMul, Nat.reduceLT, Nat.reduceLeDiff, reduceCtorEq, Int.reduceToNat, Int.reduceLT, Int.reduceLE, Int.reduceAdd, Int.reduceSub, Int.reduceMul, Int.reduceNeg, Int.reduceEq, Nat.reduceMod, forall_eq_or_imp, forall_eq, forall_const, cond_true, cond_false, decide_true, decide_false, true_imp_iff, implies_true, Int.cast_ofNat_Int, forall_eq']
      rw [e]
      refine ⟨rfl, ?_, ?_⟩ <;> simp only
      · split <;> omega
      · omega
end Go.Proofs.Ytfhifkcbdpgomaa
