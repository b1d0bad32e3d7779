/- The quotient of a number of 128 bits by one of 64: the plain law. Conditions: none. -/
import Derived.Test.YtfhifkcbdpgomaaRC
namespace Go.Proofs.Ytfhifkcbdpgomaa
set_option linter.unusedSimpArgs false
set_option linter.unusedVariables false
open Go.RowKit
set_option maxRecDepth 20000

/-- What holds while the estimate q of a digit is lowered: y = y1 * 2^32 + y0 the divisor, u the high part, a the next digit, Q the digit itself. -/
structure KInv (y u a q r : Nat) : Prop where
  eq : q * (y / 4294967296) + r = u
  ge : (u * 4294967296 + a) / y ≤ q
  le : q ≤ 4294967297
  rb : r < 8589934592
  hi : 4294967296 ≤ r → q ≤ 4294967296
theorem k_start {y u a : Nat} (hy : 9223372036854775808 ≤ y) (hy2 : y < 18446744073709551616) (hu : u < y) (ha : a < 4294967296) : KInv y u a (u / (y / 4294967296)) (u - u / (y / 4294967296) * (y / 4294967296)) := by
  have hy1 : 2147483648 ≤ y / 4294967296 := by omega
  have hy1' : y / 4294967296 < 4294967296 := by omega
  have hdm := Nat.div_add_mod u (y / 4294967296)
  have hm := Nat.mod_lt u (show 0 < y / 4294967296 by omega)
  rw [Nat.mul_comm] at hdm
  have hsub : u - u / (y / 4294967296) * (y / 4294967296) = u % (y / 4294967296) := by omega
  rw [hsub]
  refine ⟨hdm, ?_, ?_, by omega, fun h => by omega⟩
  · -- the true digit is at most the estimate
    have hyd := Nat.div_add_mod y 4294967296
    refine Nat.le_of_lt_succ ((Nat.div_lt_iff_lt_mul (by omega)).2 ?_)
    have h1 : u + 1 ≤ (u / (y / 4294967296) + 1) * (y / 4294967296) := by
      rw [Nat.add_mul, Nat.one_mul]; omega
    have h2 : (u + 1) * 4294967296 ≤ (u / (y / 4294967296) + 1) * (y / 4294967296) * 4294967296 := Nat.mul_le_mul_right _ h1
    have h3 : (u / (y / 4294967296) + 1) * (y / 4294967296) * 4294967296 ≤ (u / (y / 4294967296) + 1) * y := by
      rw [Nat.mul_assoc]
      exact Nat.mul_le_mul_left _ (Nat.div_mul_le_self _ _)
    have h4 : y * (u / (y / 4294967296) + 1) = (u / (y / 4294967296) + 1) * y := Nat.mul_comm _ _
    show u * 4294967296 + a < (u / (y / 4294967296) + 1) * y
    omega
  · have : u / (y / 4294967296) < 4294967298 := by
      rw [Nat.div_lt_iff_lt_mul (by omega)]
      omega
    omega
theorem k_step {y u a q r : Nat} (hy : 9223372036854775808 ≤ y) (hy2 : y < 18446744073709551616) (hu : u < y) (ha : a < 4294967296) (h : KInv y u a q r) (hr : r < 4294967296) (hc : 4294967296 ≤ q ∨ 4294967296 * r + a < q * (y % 4294967296)) :
    KInv y u a (q - 1) (r + y / 4294967296) ∧ 1 ≤ q := by
  have hq1 : 1 ≤ q := by
    rcases hc with h1 | h1
    · omega
    · rcases Nat.eq_zero_or_pos q with rfl | hp
      · rw [Nat.zero_mul] at h1; omega
      · exact hp
  obtain ⟨k, rfl⟩ : ∃ k, q = k + 1 := ⟨q - 1, by omega⟩
  have he := h.eq
  rw [Nat.add_mul, Nat.one_mul] at he
  refine ⟨⟨by simp only [Nat.add_sub_cancel]; omega, ?_, by have := h.le; omega, by omega, fun _ => by have := h.le; omega⟩, hq1⟩
  simp only [Nat.add_sub_cancel]
  -- the true digit is below q
  have hlt : (u * 4294967296 + a) / y < k + 1 := by
    rw [Nat.div_lt_iff_lt_mul (by omega)]
    rcases hc with h1 | h1
    · have h2 : 4294967296 * y ≤ (k + 1) * y := Nat.mul_le_mul_right _ h1
      have h3 : (u + 1) * 4294967296 ≤ y * 4294967296 := Nat.mul_le_mul_right _ hu
      generalize (k + 1) * y = z at *
      omega
    · have hyd := Nat.div_add_mod y 4294967296
      have h2 : (k + 1) * y = (k + 1) * (y / 4294967296) * 4294967296 + (k + 1) * (y % 4294967296) := by
        have : (k + 1) * y = (k + 1) * (4294967296 * (y / 4294967296) + y % 4294967296) := by rw [hyd]
        rw [this, Nat.mul_add, Nat.mul_left_comm, ← Nat.mul_assoc, Nat.mul_comm 4294967296, Nat.mul_assoc, Nat.mul_comm 4294967296, ← Nat.mul_assoc]
      have h3 : (k + 1) * (y / 4294967296) = k * (y / 4294967296) + y / 4294967296 := by rw [Nat.add_mul, Nat.one_mul]
      generalize (k + 1) * y = z at *
      generalize (k + 1) * (y % 4294967296) = p at *
      generalize (k + 1) * (y / 4294967296) = p2 at *
      generalize k * (y / 4294967296) = p3 at *
      omega
  omega
theorem k_end {y u a q r : Nat} (hy : 9223372036854775808 ≤ y) (hy2 : y < 18446744073709551616) (hu : u < y) (ha : a < 4294967296) (h : KInv y u a q r) (hc : 4294967296 ≤ r ∨ (q < 4294967296 ∧ q * (y % 4294967296) ≤ 4294967296 * r + a)) :
    q = (u * 4294967296 + a) / y := by
  apply Nat.le_antisymm _ h.ge
  rw [Nat.le_div_iff_mul_le (by omega)]
  have hyd := Nat.div_add_mod y 4294967296
  have h2 : q * y = q * (y / 4294967296) * 4294967296 + q * (y % 4294967296) := by
    have : q * y = q * (4294967296 * (y / 4294967296) + y % 4294967296) := by rw [hyd]
    rw [this, Nat.mul_add, Nat.mul_left_comm, ← Nat.mul_assoc, Nat.mul_comm 4294967296, Nat.mul_assoc, Nat.mul_comm 4294967296, ← Nat.mul_assoc]
  have he := h.eq
  rcases hc with h1 | ⟨h1, h3⟩
  · have hq := h.hi h1
    have h4 : q * (y % 4294967296) ≤ 4294967296 * 4294967295 := Nat.mul_le_mul hq (by omega)
    generalize q * (y % 4294967296) = p at *
    generalize q * (y / 4294967296) = p2 at *
    generalize q * y = z at *
    omega
  · generalize q * (y % 4294967296) = p at *
    generalize q * (y / 4294967296) = p2 at *
    generalize q * y = z at *
    omega
theorem k_digit {y u a : Nat} (hu : u < y) (ha : a < 4294967296) : (u * 4294967296 + a) / y < 4294967296 := by
  rw [Nat.div_lt_iff_lt_mul (by omega)]
  have h3 : (u + 1) * 4294967296 ≤ y * 4294967296 := Nat.mul_le_mul_right _ hu
  omega
end Go.Proofs.Ytfhifkcbdpgomaa
