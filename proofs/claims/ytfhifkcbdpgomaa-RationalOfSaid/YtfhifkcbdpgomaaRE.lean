/- The quotient of a number of 128 bits by one of 64: the library's own steps. Conditions: none. -/
import Derived.Test.YtfhifkcbdpgomaaRD
namespace Go.Proofs.Ytfhifkcbdpgomaa
set_option linter.unusedSimpArgs false
set_option linter.unusedVariables false
open Go.RowKit
set_option maxRecDepth 20000

theorem lz_facts {y : Nat} (h0 : 0 < y) (h : y < 18446744073709551616) : ∃ s : Nat, s ≤ 63 ∧ (64 - (lenC64 y : Int)) = (s : Int) ∧ 9223372036854775808 ≤ y * 2 ^ s ∧ y * 2 ^ s < 18446744073709551616 := by
  rcases lenC64_ok y h with ⟨h1, _⟩ | ⟨h1, h2, h3⟩
  · omega
  · have hle : lenC64 y ≤ 64 := by
      rcases Nat.lt_or_ge 64 (lenC64 y) with hlt | hge
      · have : 2 ^ 64 ≤ 2 ^ (lenC64 y - 1) := Nat.pow_le_pow_right (by decide) (by omega)
        have e : (2 : Nat) ^ 64 = 18446744073709551616 := by decide
        omega
      · exact hge
    refine ⟨64 - lenC64 y, by omega, by omega, ?_, ?_⟩
    · have := Nat.mul_le_mul_right (2 ^ (64 - lenC64 y)) h2
      rw [← Nat.pow_add, show lenC64 y - 1 + (64 - lenC64 y) = 63 by omega] at this
      exact Nat.le_trans (by decide) this
    · have := (Nat.mul_lt_mul_right (a := 2 ^ (64 - lenC64 y)) (Nat.pow_pos (by decide))).2 h3
      rw [← Nat.pow_add, show lenC64 y + (64 - lenC64 y) = 64 by omega] at this
      exact Nat.lt_of_lt_of_le this (by decide)
theorem shl_nat (a s : Nat) : ((a : Int) * 2 ^ s) % 18446744073709551616 = ((a * 2 ^ s % 18446744073709551616 : Nat) : Int) := by
  rw [Int.natCast_emod, Int.natCast_mul, Int.natCast_pow]; rfl
theorem shr_nat (a s : Nat) : ((a : Int)).fdiv (2 ^ s) = ((a / 2 ^ s : Nat) : Int) := by
  rw [Int.fdiv_eq_ediv_of_nonneg _ (by exact Int.pow_nonneg (by decide)), Int.natCast_ediv, Int.natCast_pow]; rfl
theorem or_add (a b s : Nat) (ha : a * 2 ^ s < 18446744073709551616) (hb : b < 2 ^ s) (hb2 : b < 18446744073709551616) : orbI .u64 ((a * 2 ^ s : Nat) : Int) ((b : Nat) : Int) = ((a * 2 ^ s + b : Nat) : Int) := by
  unfold orbI
  rw [wrap_u64]
  have hn : ∀ n : Nat, n < 18446744073709551616 → (BitVec.ofInt IntKind.u64.bits ((n : Nat) : Int)).toNat = n := by
    intro n hn
    have : (BitVec.ofInt 64 ((n : Nat) : Int)).toNat = n := by
      rw [BitVec.toNat_ofInt]
      have : ((n : Int) % ((2 ^ 64 : Nat) : Int)).toNat = n := by omega
      exact this
    exact this
  rw [BitVec.toNat_or, hn _ ha, hn _ hb2, Nat.mul_comm a, ← Nat.two_pow_add_eq_or_of_lt hb]
  have hlt : 2 ^ s * a + b < 18446744073709551616 := by
    rw [Nat.mul_comm] at ha
    have h1 : 2 ^ s * a + b < 2 ^ s * (a + 1) := by rw [Nat.mul_succ]; omega
    rcases Nat.lt_or_ge s 64 with hs | hs
    · have hd : 2 ^ s * 2 ^ (64 - s) = 18446744073709551616 := by rw [← Nat.pow_add, show s + (64 - s) = 64 by omega]
      have : a < 2 ^ (64 - s) := by
        rw [← hd] at ha
        exact Nat.lt_of_mul_lt_mul_left ha
      have h2 : 2 ^ s * (a + 1) ≤ 2 ^ s * 2 ^ (64 - s) := Nat.mul_le_mul_left _ this
      omega
    · rcases Nat.eq_zero_or_pos a with rfl | hp
      · omega
      · have h2 : 2 ^ 64 ≤ 2 ^ s := Nat.pow_le_pow_right (by decide) hs
        have h3 : 2 ^ s * 1 ≤ 2 ^ s * a := Nat.mul_le_mul_left _ hp
        have e : (2 : Nat) ^ 64 = 18446744073709551616 := by decide
        omega
  omega
/-- The first estimate, and the end of the lowering, as the program reckons them. -/
theorem k_first {Y u a : Nat} (hy : 9223372036854775808 ≤ Y) (hy2 : Y < 18446744073709551616) (hu : u < Y) (ks : KInv Y u a (u / (Y / 4294967296)) (u - u / (Y / 4294967296) * (Y / 4294967296))) :
    ((u : Int)).tdiv ((Y / 4294967296 : Nat) : Int) % 18446744073709551616 = ((u / (Y / 4294967296) : Nat) : Int) ∧
    ((u : Int) - ((u / (Y / 4294967296) : Nat) : Int) * ((Y / 4294967296 : Nat) : Int) % 18446744073709551616) % 18446744073709551616 = ((u - u / (Y / 4294967296) * (Y / 4294967296) : Nat) : Int) := by
  have h1 := ks.le
  have h2 := Nat.div_mul_le_self u (Y / 4294967296)
  rw [← Int.ofNat_tdiv, ← Int.natCast_mul]
  generalize u / (Y / 4294967296) * (Y / 4294967296) = p at *
  generalize u / (Y / 4294967296) = q at *
  omega
theorem k_cond {Y u a q r : Nat} (hk : KInv Y u a q r) (hr : r < 4294967296) (ha : a < 4294967296) :
    (bif decide ((4294967296 : Int) ≤ q) then true else decide ((4294967296 * (r : Int) % 18446744073709551616 + (a : Int)) % 18446744073709551616 < (q : Int) * ((Y % 4294967296 : Nat) : Int) % 18446744073709551616)) = (decide (4294967296 ≤ q) || decide (4294967296 * r + a < q * (Y % 4294967296))) := by
  have h1 := hk.le
  have h2 : q * (Y % 4294967296) ≤ 4294967297 * 4294967295 := Nat.mul_le_mul h1 (by omega)
  rw [condT, ← Int.natCast_mul]
  generalize q * (Y % 4294967296) = p at *
  rw [Bool.eq_iff_iff]
  simp only [Bool.or_eq_true, decide_eq_true_eq]
  omega
theorem ev_div64 (hi lo y : Nat) (h1 : hi < y) (h2 : y < 18446744073709551616) (h3 : lo < 18446744073709551616) :
    Ev Try.prog 45 [U64 hi, U64 lo, U64 y] (.tup [U64 ((hi * 18446744073709551616 + lo) / y), U64 ((hi * 18446744073709551616 + lo) % y)]) := by
  obtain ⟨s, s1, s2, s3, s4⟩ := lz_facts (y := y) (by omega) h2
  have hl := ev_lz64 y h2
  rw [s2] at hl
  refine ev_fn Try.func45 comp45 (show 3 ≤ Try.f45.ntmps by decide) ?_; unfold cf45 rf45; simp only [↓EVP0, EVQ0, EVQ1, EVQ2, EVQ3, EVQ4, EVA, EVK, EVFR, ↓reduceIte, Nat.reduceEqDiff, Nat.reduceAdd, Nat.reduceSub, Nat.reduceMul, Nat.reduceLT, Nat.reduceLeDiff, reduceCtorEq, Int.reduceToNat, Int.reduceLT, Int.reduceLE, Int.reduceAdd, Int.reduceSub, Int.reduceMul, Int.reduceNeg, Int.reduceEq, Nat.reduceMod, forall_eq_or_imp, forall_eq, forall_const, cond_true, cond_false, decide_true, decide_false, true_imp_iff, implies_true, Int.cast_ofNat_Int, forall_eq']
  refine ⟨fun g => by simp at g; omega, fun _ => ⟨fun g => by simp at g; omega, fun _ => ⟨fun g => ?_, fun g => ?_⟩⟩⟩
  · have h0 : hi = 0 := by simp at g; exact g
    subst h0
    refine ⟨by omega, by omega, ?_, ?_⟩
    · have e : ((lo : Int)).tdiv y = ((lo / y : Nat) : Int) := (Int.ofNat_tdiv lo y).symm
      have : lo / y ≤ lo := Nat.div_le_self _ _
      rw [Nat.zero_mul, Nat.zero_add, e]
      generalize lo / y = z at *
      omega
    · rw [Nat.zero_mul, Nat.zero_add]; exact (Int.ofNat_tmod _ _).symm
  · refine callK_ro (hl) ?_ ?_
    · simp only [↓EVP0, EVQ0, EVQ1, EVQ2, EVQ3, EVQ4, EVA, EVK, EVFR, ↓reduceIte, Nat.reduceEqDiff, Nat.reduceAdd, Nat.reduceSub, Nat.reduceMul, Nat.reduceLT, Nat.reduceLeDiff, reduceCtorEq, Int.reduceToNat, Int.reduceLT, Int.reduceLE, Int.reduceAdd, Int.reduceSub, Int.reduceMul, Int.reduceNeg, Int.reduceEq, Nat.reduceMod, forall_eq_or_imp, forall_eq, forall_const, cond_true, cond_false, decide_true, decide_false, true_imp_iff, implies_true, Int.cast_ofNat_Int, forall_eq']
    simp only [↓EVP0, EVQ0, EVQ1, EVQ2, EVQ3, EVQ4, EVA, EVK, EVFR, ↓reduceIte, Nat.reduceEqDiff, Nat.reduceAdd, Nat.reduceSub, Nat.reduceMul, Nat.reduceLT, Nat.reduceLeDiff, reduceCtorEq, Int.reduceToNat, Int.reduceLT, Int.reduceLE, Int.reduceAdd, Int.reduceSub, Int.reduceMul, Int.reduceNeg, Int.reduceEq, Nat.reduceMod, forall_eq_or_imp, forall_eq, forall_const, cond_true, cond_false, decide_true, decide_false, true_imp_iff, implies_true, Int.cast_ofNat_Int, forall_eq']
    have e1 : (s : Int) % 18446744073709551616 = s := by omega
    have e2 : (64 - (s : Int)) % 18446744073709551616 = ((64 - s : Nat) : Int) := by omega
    simp only [e1, e2, Int.toNat_natCast, shl_nat, shr_nat]
    have hp : 0 < 2 ^ s := Nat.pow_pos (by decide)
    have hd : 2 ^ (64 - s) * 2 ^ s = 18446744073709551616 := by rw [← Nat.pow_add, show 64 - s + s = 64 by omega]
    have hhi : hi * 2 ^ s < y * 2 ^ s := (Nat.mul_lt_mul_right hp).2 h1
    have hlo : lo / 2 ^ (64 - s) < 2 ^ s := by
      rw [Nat.div_lt_iff_lt_mul (Nat.pow_pos (by decide)), Nat.mul_comm, hd]; exact h3
    have hlo2 : lo / 2 ^ (64 - s) ≤ lo := Nat.div_le_self _ _
    have m1 : y * 2 ^ s % 18446744073709551616 = y * 2 ^ s := Nat.mod_eq_of_lt s4
    have m2 : hi * 2 ^ s % 18446744073709551616 = hi * 2 ^ s := Nat.mod_eq_of_lt (by omega)
    have hor := or_add hi (lo / 2 ^ (64 - s)) s (by omega) hlo (by omega)
    -- the number, shifted
    have hU : (hi * 18446744073709551616 + lo) * 2 ^ s = (hi * 2 ^ s + lo / 2 ^ (64 - s)) * 18446744073709551616 + lo * 2 ^ s % 18446744073709551616 := by
      have h5 : lo * 2 ^ s % 18446744073709551616 = (lo % 2 ^ (64 - s)) * 2 ^ s := by
        rw [← hd, Nat.mul_mod_mul_right]
      have h6 := Nat.div_add_mod lo (2 ^ (64 - s))
      have h7 : lo * 2 ^ s = lo / 2 ^ (64 - s) * 18446744073709551616 + lo % 2 ^ (64 - s) * 2 ^ s := by
        rw [← hd, ← Nat.mul_assoc, ← Nat.add_mul, Nat.mul_comm (lo / _), h6]
      rw [h5, Nat.add_mul, h7, Nat.add_mul]
      have h8 : hi * 18446744073709551616 * 2 ^ s = hi * 2 ^ s * 18446744073709551616 := Nat.mul_right_comm _ _ _
      omega
    have hu : hi * 2 ^ s + lo / 2 ^ (64 - s) < y * 2 ^ s := by
      have : (hi + 1) * 2 ^ s ≤ y * 2 ^ s := Nat.mul_le_mul_right _ h1
      rw [Nat.add_mul, Nat.one_mul] at this
      omega
    have hw : lo * 2 ^ s % 18446744073709551616 < 18446744073709551616 := Nat.mod_lt _ (by decide)
    rw [m1]
    refine ⟨⟨by omega, by omega⟩, ⟨by omega, by omega⟩, ⟨by omega, by omega⟩, ⟨by omega, by omega⟩, by omega, ?_⟩
    have hQ : (hi * 18446744073709551616 + lo) / y = (hi * 18446744073709551616 + lo) * 2 ^ s / (y * 2 ^ s) := (Nat.mul_div_mul_right _ _ hp).symm
    have hR : (hi * 18446744073709551616 + lo) % y = (hi * 18446744073709551616 + lo) * 2 ^ s % (y * 2 ^ s) / 2 ^ s := by rw [Nat.mul_mod_mul_right, Nat.mul_div_cancel _ hp]
    rw [hU] at hQ hR
    generalize hY : y * 2 ^ s = Y at *
    generalize hUn : hi * 2 ^ s + lo / 2 ^ (64 - s) = u at *
    generalize hW : lo * 2 ^ s % 18446744073709551616 = v at *
    have ks := k_start (y := Y) (u := u) (a := v / 4294967296) s3 s4 hu (by omega)
    have hdig := k_digit (a := v / 4294967296) hu (by omega)
    obtain ⟨q1, hq1⟩ : ∃ q1, (u * 4294967296 + v / 4294967296) / Y = q1 := ⟨_, rfl⟩
    obtain ⟨u2, hu2⟩ : ∃ u2, (u * 4294967296 + v / 4294967296) % Y = u2 := ⟨_, rfl⟩
    have hx : Y * q1 + u2 = u * 4294967296 + v / 4294967296 := by rw [← hq1, ← hu2]; exact Nat.div_add_mod _ _
    have hx2 : u2 < Y := by rw [← hu2]; exact Nat.mod_lt _ (by omega)
    rw [hq1] at hdig
    refine lwp_join (α := Unit) (fun _ => True) (fun _ => [(2, .sc (.int .u64 (Y : Int))), (8, .sc (.int .u64 (s : Int))), (9, .sc (.int .u64 ((Y / 4294967296 : Nat) : Int))), (10, .sc (.int .u64 ((Y % 4294967296 : Nat) : Int))), (11, .sc (.int .u64 (u : Int))),
      (13, .sc (.int .u64 ((v / 4294967296 : Nat) : Int))), (14, .sc (.int .u64 ((v % 4294967296 : Nat) : Int))), (15, .sc (.int .u64 (q1 : Int)))]) (fun _ => []) (fun _ => Nat.zero_le _) ?_ ?_
    · simp only [↓EVP0, EVQ0, EVQ1, EVQ2, EVQ3, EVQ4, EVA, EVK, EVFR, ↓reduceIte, Nat.reduceEqDiff, Nat.reduceAdd, Nat.reduceSub, Nat.reduceMul, Nat.reduceLT, Nat.reduceLeDiff, reduceCtorEq, Int.reduceToNat, Int.reduceLT, Int.reduceLE, Int.reduceAdd, Int.reduceSub, Int.reduceMul, Int.reduceNeg, Int.reduceEq, Nat.reduceMod, forall_eq_or_imp, forall_eq, forall_const, cond_true, cond_false, decide_true, decide_false, true_imp_iff, implies_true, Int.cast_ofNat_Int, forall_eq']
      have hr0 : u - u / (Y / 4294967296) * (Y / 4294967296) < 4294967296 := by
        have := ks.eq
        have h5 := Nat.div_add_mod u (Y / 4294967296)
        have h6 := Nat.mod_lt u (show 0 < Y / 4294967296 by omega)
        rw [Nat.mul_comm] at h5
        omega
      refine lwp_loop (α := Nat × Nat) (fun q => KInv Y u (v / 4294967296) q.1 q.2 ∧ q.2 < 4294967296) (fun q => [(2, .sc (.int .u64 (Y : Int))), (8, .sc (.int .u64 (s : Int))), (9, .sc (.int .u64 ((Y / 4294967296 : Nat) : Int))), (10, .sc (.int .u64 ((Y % 4294967296 : Nat) : Int))), (11, .sc (.int .u64 (u : Int))),
        (13, .sc (.int .u64 ((v / 4294967296 : Nat) : Int))), (14, .sc (.int .u64 ((v % 4294967296 : Nat) : Int))), (15, .sc (.int .u64 (q.1 : Int))), (16, .sc (.int .u64 (q.2 : Int)))]) (fun _ => []) (fun q => q.1) (_, _) ⟨ks, hr0⟩ ?_ (fun _ => Nat.zero_le _) ?_
      · simp only [↓EVP0, EVQ0, EVQ1, EVQ2, EVQ3, EVQ4, EVA, EVK, EVFR, ↓reduceIte, Nat.reduceEqDiff, Nat.reduceAdd, Nat.reduceSub, Nat.reduceMul, Nat.reduceLT, Nat.reduceLeDiff, reduceCtorEq, Int.reduceToNat, Int.reduceLT, Int.reduceLE, Int.reduceAdd, Int.reduceSub, Int.reduceMul, Int.reduceNeg, Int.reduceEq, Nat.reduceMod, forall_eq_or_imp, forall_eq, forall_const, cond_true, cond_false, decide_true, decide_false, true_imp_iff, implies_true, Int.cast_ofNat_Int, forall_eq']
        have ey : (Y : Int) / 4294967296 = ((Y / 4294967296 : Nat) : Int) := by omega
        obtain ⟨f1, f2⟩ := k_first s3 s4 hu ks
        rw [m2, hor, ey, f1, f2]
        exact ⟨rfl, by omega, rfl, by omega, by omega, rfl, rfl⟩
      rintro ⟨q, r⟩ ⟨hk, hr⟩
      have hkc := k_cond hk hr (by omega)
      unfold lb45_1
      simp only [↓EVP0, EVQ0, EVQ1, EVQ2, EVQ3, EVQ4, EVA, EVK, EVFR, ↓reduceIte, Nat.reduceEqDiff, Nat.reduceAdd, Nat.reduceSub, Nat.reduceMul, Nat.reduceLT, Nat.reduceLeDiff, reduceCtorEq, Int.reduceToNat, Int.reduceLT, Int.reduceLE, Int.reduceAdd, Int.reduceSub, Int.reduceMul, Int.reduceNeg, Int.reduceEq, Nat.reduceMod, forall_eq_or_imp, forall_eq, forall_const, cond_true, cond_false, decide_true, decide_false, true_imp_iff, implies_true, Int.cast_ofNat_Int, forall_eq']
      rw [hkc]
      refine ⟨fun hc => ?_, fun hc => ?_⟩
      · obtain ⟨hk2, hqp⟩ := k_step s3 s4 hu (by omega) hk hr (by simpa using hc)
        have hq2 := hk.le
        refine ⟨fun hb => ⟨(), ?_⟩, fun hb => ⟨(q - 1, r + Y / 4294967296), ⟨hk2, ?_⟩, ⟨?_, ?_⟩, ?_⟩⟩
        · have he := k_end s3 s4 hu (by omega) hk2 (.inl (by simp at hb; omega))
          rw [hq1] at he
          omega
        · simp at hb ⊢; omega
        · simp only; omega
        · simp only; omega
        · simp only; omega
      · refine ⟨(), ?_⟩
        have he := k_end s3 s4 hu (by omega) hk (.inr (by simp at hc; omega))
        rw [hq1] at he
        simp only at he
        rw [he]
    rintro _ _
    simp only [↓EVP0, EVQ0, EVQ1, EVQ2, EVQ3, EVQ4, EVA, EVK, EVFR, ↓reduceIte, Nat.reduceEqDiff, Nat.reduceAdd, Nat.reduceSub, Nat.reduceMul, Nat.reduceLT, Nat.reduceLeDiff, reduceCtorEq, Int.reduceToNat, Int.reduceLT, Int.reduceLE, Int.reduceAdd, Int.reduceSub, Int.reduceMul, Int.reduceNeg, Int.reduceEq, Nat.reduceMod, forall_eq_or_imp, forall_eq, forall_const, cond_true, cond_false, decide_true, decide_false, true_imp_iff, implies_true, Int.cast_ofNat_Int, forall_eq']
    -- what is left for the second digit
    have h17 : (((u : Int) * 4294967296 % 18446744073709551616 + ((v / 4294967296 : Nat) : Int)) % 18446744073709551616 - (q1 : Int) * (Y : Int) % 18446744073709551616) % 18446744073709551616 = (u2 : Int) := by
      have : (q1 : Int) * (Y : Int) = ((Y * q1 : Nat) : Int) := by rw [Int.natCast_mul, Int.mul_comm]
      rw [this]
      omega
    have ks2 := k_start (y := Y) (u := u2) (a := v % 4294967296) s3 s4 hx2 (by omega)
    have hdig2 := k_digit (a := v % 4294967296) hx2 (by omega)
    refine ⟨by omega, ?_⟩
    have hr02 : u2 - u2 / (Y / 4294967296) * (Y / 4294967296) < 4294967296 := by
      have h5 := Nat.div_add_mod u2 (Y / 4294967296)
      have h6 := Nat.mod_lt u2 (show 0 < Y / 4294967296 by omega)
      rw [Nat.mul_comm] at h5
      omega
    obtain ⟨q0, hq0⟩ : ∃ q0, (u2 * 4294967296 + v % 4294967296) / Y = q0 := ⟨_, rfl⟩
    obtain ⟨u3, hu3⟩ : ∃ u3, (u2 * 4294967296 + v % 4294967296) % Y = u3 := ⟨_, rfl⟩
    have hy : Y * q0 + u3 = u2 * 4294967296 + v % 4294967296 := by rw [← hq0, ← hu3]; exact Nat.div_add_mod _ _
    have hy2 : u3 < Y := by rw [← hu3]; exact Nat.mod_lt _ (by omega)
    rw [hq0] at hdig2
    -- the whole quotient and rest
    have hall : u * 18446744073709551616 + v = Y * (q1 * 4294967296 + q0) + u3 := by
      rw [Nat.mul_add, ← Nat.mul_assoc]
      omega
    have hQ2 : (hi * 18446744073709551616 + lo) / y = q1 * 4294967296 + q0 := by
      rw [hQ, hall, Nat.mul_add_div (by omega), Nat.div_eq_of_lt hy2, Nat.add_zero]
    have hR2 : (hi * 18446744073709551616 + lo) % y = u3 / 2 ^ s := by
      rw [hR, hall, Nat.mul_add_mod, Nat.mod_eq_of_lt hy2]
    refine lwp_loop (α := Nat × Nat) (fun q => KInv Y u2 (v % 4294967296) q.1 q.2 ∧ q.2 < 4294967296) (fun q => [(2, .sc (.int .u64 (Y : Int))), (8, .sc (.int .u64 (s : Int))), (9, .sc (.int .u64 ((Y / 4294967296 : Nat) : Int))), (10, .sc (.int .u64 ((Y % 4294967296 : Nat) : Int))),
      (14, .sc (.int .u64 ((v % 4294967296 : Nat) : Int))), (15, .sc (.int .u64 (q1 : Int))), (17, .sc (.int .u64 (u2 : Int))), (18, .sc (.int .u64 (q.1 : Int))), (16, .sc (.int .u64 (q.2 : Int)))]) (fun _ => []) (fun q => q.1) (_, _) ⟨ks2, hr02⟩ ?_ (fun _ => Nat.zero_le _) ?_
    · simp only [↓EVP0, EVQ0, EVQ1, EVQ2, EVQ3, EVQ4, EVA, EVK, EVFR, ↓reduceIte, Nat.reduceEqDiff, Nat.reduceAdd, Nat.reduceSub, Nat.reduceMul, Nat.reduceLT, Nat.reduceLeDiff, reduceCtorEq, Int.reduceToNat, Int.reduceLT, Int.reduceLE, Int.reduceAdd, Int.reduceSub, Int.reduceMul, Int.reduceNeg, Int.reduceEq, Nat.reduceMod, forall_eq_or_imp, forall_eq, forall_const, cond_true, cond_false, decide_true, decide_false, true_imp_iff, implies_true, Int.cast_ofNat_Int, forall_eq']
      obtain ⟨f1, f2⟩ := k_first s3 s4 hx2 ks2
      rw [h17, f1, f2]
      exact ⟨rfl, rfl, rfl⟩
    rintro ⟨q, r⟩ ⟨hk, hr⟩
    have hkc := k_cond hk hr (by omega)
    have hend : ∀ z : Nat, z = q0 → (((q1 : Int) * 4294967296 % 18446744073709551616 + (z : Int)) % 18446744073709551616 = ((q1 * 4294967296 + q0 : Nat) : Int)) ∧
        (((u2 : Int) * 4294967296 % 18446744073709551616 + ((v % 4294967296 : Nat) : Int)) % 18446744073709551616 - (z : Int) * (Y : Int) % 18446744073709551616) % 18446744073709551616 = (u3 : Int) := by
      rintro z rfl
      have : (z : Int) * (Y : Int) = ((Y * z : Nat) : Int) := by rw [Int.natCast_mul, Int.mul_comm]
      rw [this]
      omega
    unfold lb45_0
    simp only [↓EVP0, EVQ0, EVQ1, EVQ2, EVQ3, EVQ4, EVA, EVK, EVFR, ↓reduceIte, Nat.reduceEqDiff, Nat.reduceAdd, Nat.reduceSub, Nat.reduceMul, Nat.reduceLT, Nat.reduceLeDiff, reduceCtorEq, Int.reduceToNat, Int.reduceLT, Int.reduceLE, Int.reduceAdd, Int.reduceSub, Int.reduceMul, Int.reduceNeg, Int.reduceEq, Nat.reduceMod, forall_eq_or_imp, forall_eq, forall_const, cond_true, cond_false, decide_true, decide_false, true_imp_iff, implies_true, Int.cast_ofNat_Int, forall_eq']
    rw [hkc, hQ2, hR2]
    simp only
    refine ⟨fun hc => ?_, fun hc => ?_⟩
    · obtain ⟨hk2, hqp⟩ := k_step s3 s4 hx2 (by omega) hk hr (by simpa using hc)
      have hq2 := hk.le
      simp only at hq2 hqp
      have eq' : ((q : Int) - 1) % 18446744073709551616 = ((q - 1 : Nat) : Int) := by omega
      rw [eq']
      refine ⟨fun hb => ⟨⟨by omega, by omega⟩, ?_⟩, fun hb => ⟨(q - 1, r + Y / 4294967296), ⟨hk2, ?_⟩, ⟨rfl, ?_⟩, ?_⟩⟩
      · have he := k_end s3 s4 hx2 (by omega) hk2 (.inl (by simp at hb; omega))
        rw [hq0] at he
        obtain ⟨g1, g2⟩ := hend _ he
        exact ⟨g1, by rw [g2, shr_nat]⟩
      · simp at hb ⊢; omega
      · simp only; omega
      · simp only; omega
    · have he := k_end s3 s4 hx2 (by omega) hk (.inr (by simp at hc; omega))
      rw [hq0] at he
      obtain ⟨g1, g2⟩ := hend _ he
      exact ⟨⟨by omega, by omega⟩, g1, by rw [g2, shr_nat]⟩
end Go.Proofs.Ytfhifkcbdpgomaa
