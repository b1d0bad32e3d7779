/- Of answers as the reference does. Conditions: none. -/
import Derived.Test.YtfhifkcbdpgomaaRP
namespace Go.Proofs.Ytfhifkcbdpgomaa
set_option linter.unusedSimpArgs false
set_option linter.unusedVariables false
open Go.RowKit
set_option maxRecDepth 20000

theorem natAbs_tmod' (a b : Int) : (a.tmod b).natAbs = a.natAbs % b.natAbs := Int.natAbs_tmod a b
/-- Euclid's steps on numbers of any sign. -/
def eg (a b : Int) : Int := if b = 0 then a else eg b (a.tmod b)
termination_by b.natAbs
decreasing_by
  rw [natAbs_tmod']
  exact Nat.mod_lt _ (by omega)
theorem eg_eq (a b : Int) : eg a b = if b = 0 then a else eg b (a.tmod b) := by rw [eg]
theorem eg_abs : ∀ (k : Nat) (a b : Int), b.natAbs ≤ k → (eg a b).natAbs = Nat.gcd a.natAbs b.natAbs := by
  intro k
  induction k with
  | zero =>
    intro a b h
    have : b = 0 := by omega
    subst this
    rw [eg_eq]; simp
  | succ k ih =>
    intro a b h
    rw [eg_eq]
    split
    · rename_i h0; subst h0; simp
    · have hlt := Nat.mod_lt a.natAbs (show 0 < b.natAbs by omega)
      rw [ih b _ (by rw [natAbs_tmod']; omega), natAbs_tmod', Nat.gcd_comm a.natAbs b.natAbs, Nat.gcd_rec b.natAbs a.natAbs, Nat.gcd_comm (a.natAbs % b.natAbs)]
theorem ev_rgcd2 (a b : Int) : Ev Try.prog 40 [.sc (.int .i64 a), .sc (.int .i64 b)] (.sc (.int .i64 (eg a b))) := by
  refine ev_fn Try.func40 comp40 (show 2 ≤ Try.f40.ntmps by decide) ?_; unfold cf40 rf40; simp only [↓EVP0, EVQ0, EVQ1, EVQ2, EVQ3, EVQ4, EVA, EVK, EVFR, ↓reduceIte, Nat.reduceEqDiff, Nat.reduceAdd, Nat.reduceSub, Nat.reduceMul, Nat.reduceLT, Nat.reduceLeDiff, reduceCtorEq, Int.reduceToNat, Int.reduceLT, Int.reduceLE, Int.reduceAdd, Int.reduceSub, Int.reduceMul, Int.reduceNeg, Int.reduceEq, Nat.reduceMod, forall_eq_or_imp, forall_eq, forall_const, cond_true, cond_false, decide_true, decide_false, true_imp_iff, implies_true, Int.cast_ofNat_Int, forall_eq']
  refine lwp_loop (α := Int × Int) (fun q => eg q.1 q.2 = eg a b) (fun q => [(0, .sc (.int .i64 q.1)), (1, .sc (.int .i64 q.2))]) (fun _ => []) (fun q => q.2.natAbs) (a, b) rfl ?_ (fun _ => Nat.zero_le _) ?_
  · simp only [↓EVP0, EVQ0, EVQ1, EVQ2, EVQ3, EVQ4, EVA, EVK, EVFR, ↓reduceIte, Nat.reduceEqDiff, Nat.reduceAdd, Nat.reduceSub, Nat.reduceMul, Nat.reduceLT, Nat.reduceLeDiff, reduceCtorEq, Int.reduceToNat, Int.reduceLT, Int.reduceLE, Int.reduceAdd, Int.reduceSub, Int.reduceMul, Int.reduceNeg, Int.reduceEq, Nat.reduceMod, forall_eq_or_imp, forall_eq, forall_const, cond_true, cond_false, decide_true, decide_false, true_imp_iff, implies_true, Int.cast_ofNat_Int, forall_eq']
  rintro ⟨x, y⟩ hxy
  unfold lb40_0
  simp only [↓EVP0, EVQ0, EVQ1, EVQ2, EVQ3, EVQ4, EVA, EVK, EVFR, ↓reduceIte, Nat.reduceEqDiff, Nat.reduceAdd, Nat.reduceSub, Nat.reduceMul, Nat.reduceLT, Nat.reduceLeDiff, reduceCtorEq, Int.reduceToNat, Int.reduceLT, Int.reduceLE, Int.reduceAdd, Int.reduceSub, Int.reduceMul, Int.reduceNeg, Int.reduceEq, Nat.reduceMod, forall_eq_or_imp, forall_eq, forall_const, cond_true, cond_false, decide_true, decide_false, true_imp_iff, implies_true, Int.cast_ofNat_Int, forall_eq']
  simp only at hxy
  rw [eg_eq] at hxy
  refine ⟨fun h => ?_, fun h => ?_⟩
  · have h0 : y ≠ 0 := by simpa using h
    rw [if_neg h0] at hxy
    refine ⟨h0, (y, x.tmod y), hxy, ⟨rfl, rfl⟩, ?_⟩
    simp only
    rw [natAbs_tmod']
    exact Nat.mod_lt _ (by omega)
  · have h0 : y = 0 := by simpa using h
    rw [if_pos h0] at hxy
    rw [hxy]
theorem two_dvd {k m : Nat} (h : k ∣ 2 ^ (m + 1)) (hk : k ≤ 2 ^ m) : k ∣ 2 ^ m := by
  obtain ⟨c, hc⟩ := h
  rcases (show c % 2 = 0 ∨ c % 2 = 1 by omega) with h2 | h2
  · refine ⟨c / 2, ?_⟩
    have e : c = 2 * (c / 2) := by omega
    rw [e, Nat.pow_succ, ← Nat.mul_assoc, Nat.mul_comm k 2, Nat.mul_assoc] at hc
    omega
  · exfalso
    have hco : Nat.Coprime c 2 := by
      unfold Nat.Coprime
      rw [Nat.gcd_comm, Nat.gcd_rec, h2]
      simp
    have h1 := Nat.Coprime.eq_one_of_dvd (hco.pow_right (m + 1)) ⟨k, by rw [hc, Nat.mul_comm]⟩
    rw [h1, Nat.pow_succ] at hc
    have := Nat.pow_pos (n := m) (show 0 < 2 by omega)
    omega
/-- A result in lowest terms over the least int: the numerator is a multiple of 8. -/
theorem low_eight {n : Int} (h : (low n 9223372036854775808).2 = 0) : (8 : Int) ∣ n := by
  unfold low res at h
  have hg0 : 0 < Nat.gcd n.natAbs 9223372036854775808 := Nat.gcd_pos_of_pos_right _ (by omega)
  have hd1 := Nat.gcd_dvd_left n.natAbs 9223372036854775808
  have hd2 := Nat.gcd_dvd_right n.natAbs 9223372036854775808
  generalize Nat.gcd n.natAbs 9223372036854775808 = g at *
  split at h
  · rename_i h0
    obtain ⟨c, hc⟩ := hd1
    have : n.natAbs = 0 := by
      rw [hc, Nat.mul_div_cancel_left _ hg0] at h0
      rw [hc, h0, Nat.mul_zero]
    exact ⟨0, by omega⟩
  · split at h
    · rename_i h1
      have hk := h1.2
      obtain ⟨c, hc⟩ := hd2
      rw [hc, Nat.mul_div_cancel_left _ hg0] at hk
      have c1 : c ∣ 2 ^ 63 := ⟨g, by rw [Nat.mul_comm, ← hc]⟩
      have c2 := two_dvd (m := 62) c1 (by omega)
      have c3 := two_dvd (m := 61) c2 (by omega)
      have c4 := two_dvd (m := 60) c3 (by omega)
      obtain ⟨e, he⟩ := c4
      have hc0 : 0 < c := by
        rcases Nat.eq_zero_or_pos c with h | h
        · rw [h] at he; simp at he
        · exact h
      have : c * g = c * (8 * e) := by
        rw [Nat.mul_comm c g, ← hc, Nat.mul_left_comm, ← he]
      have hg8 := Nat.eq_of_mul_eq_mul_left hc0 this
      obtain ⟨f, hf⟩ := hd1
      rw [hg8] at hf
      have : 8 ∣ n.natAbs := ⟨e * f, by rw [hf, Nat.mul_assoc]⟩
      omega
    · simp at h
theorem tmod_eight {n : Int} (h : (8 : Int) ∣ n) : (8 : Int) ∣ n.tmod 536870912 := by
  have := Int.tmod_add_mul_tdiv n 536870912
  generalize n.tdiv 536870912 = q at *
  omega
theorem tmod_29 (n : Int) : In29 (n.tmod 536870912) := by
  have h := natAbs_tmod' n 536870912
  have := Nat.mod_lt n.natAbs (show 0 < (536870912 : Int).natAbs by decide)
  rw [← h] at this
  unfold In29
  have e : (536870912 : Int).natAbs = 536870912 := rfl
  omega
theorem tmod_self {n : Int} (h : n.tmod 536870912 = n) : In29 n := h ▸ tmod_29 n
theorem of_small {n d : Int} (hn : In29 n) (hd : In29 d) (h0 : d ≠ 0) : (ofR n d).2 = 0 := by
  unfold ofR
  rw [if_neg h0]
  have e : (if d < 0 then -n else n).natAbs = n.natAbs := by split <;> omega
  unfold low res
  rw [e]
  unfold mag In29 at *
  have a := Nat.div_le_self n.natAbs (Nat.gcd n.natAbs d.natAbs)
  have b := Nat.div_le_self d.natAbs (Nat.gcd n.natAbs d.natAbs)
  generalize n.natAbs / Nat.gcd n.natAbs d.natAbs = x at *
  generalize d.natAbs / Nat.gcd n.natAbs d.natAbs = y at *
  split
  · rfl
  · rw [if_pos (by omega)]
theorem of_cases {n d : Int} (h0 : d ≠ 0) : ((ofR n d).2 = 0 ∧ Low (ofR n d).1) ∨ ofR n d = (⟨0, 0⟩, 10) := by
  unfold ofR
  rw [if_neg h0]
  rcases low_ok (x := if d < 0 then -n else n) (y := mag d) (by unfold mag; omega) with h | h
  · exact .inl ⟨h.1, h.2.1⟩
  · exact .inr h
/-- The reference over the least int: it answers. -/
theorem ev_rofMin (n d : Int) (hn : In29 n) (h8 : (8 : Int) ∣ n) (hd : d = -9223372036854775808) : ∃ q : Rt × Int, Ev Try.prog 25 [.sc (.int .i64 n), .sc (.int .i64 d)] (rrV q) := by
  have g1 := eg_abs _ ((mag (0 - n) : Nat) : Int) d (Nat.le_refl _)
  have h1 := ev_rabs (0 - n) (by unfold In29 at hn; omega)
  have h2 := ev_rgcd2 ((mag (0 - n) : Nat) : Int) d
  have h3 : 8 ≤ (eg ((mag (0 - n) : Nat) : Int) d).natAbs := by
    rw [g1, hd]
    have p0 : 0 < Nat.gcd (((mag (0 - n) : Nat) : Int)).natAbs (-9223372036854775808 : Int).natAbs := Nat.gcd_pos_of_pos_right _ (by decide)
    refine Nat.le_of_dvd p0 (Nat.dvd_gcd ?_ (by decide))
    rw [Int.natAbs_natCast]
    unfold mag
    omega
  generalize eg ((mag (0 - n) : Nat) : Int) d = g at *
  have i1 : In64 ((0 - n).tdiv g) := by
    have h : ((0 - n).tdiv g).natAbs = (0 - n).natAbs / g.natAbs := Int.natAbs_tdiv (0 - n) g
    have := Nat.div_le_self (0 - n).natAbs g.natAbs
    rw [← h] at this
    clear h
    unfold In29 at hn
    unfold In64
    omega
  have i2 : In64 (d.tdiv g) := by
    have h : (d.tdiv g).natAbs = d.natAbs / g.natAbs := Int.natAbs_tdiv d g
    have : d.natAbs / g.natAbs ≤ d.natAbs / 8 := Nat.div_le_div_left h3 (by omega)
    rw [← h] at this
    clear h
    unfold In64
    omega
  have h4 := ev_rvalid ⟨(0 - n).tdiv g, d.tdiv g⟩
  have w2 : IntKind.i64.wrap (0 - d) = d := by rw [hd]; decide
  refine ⟨if vldR ⟨(0 - n).tdiv g, d.tdiv g⟩ = true then (⟨(0 - n).tdiv g, d.tdiv g⟩, 0) else (⟨0, 0⟩, 10), ?_⟩
  unfold rrV ratV at *
  refine ev_fn Try.func25 comp25 (show 2 ≤ Try.f25.ntmps by decide) ?_; unfold cf25 rf25; simp only [↓EVP0, EVQ0, EVQ1, EVQ2, EVQ3, EVQ4, EVA, EVK, EVFR, ↓reduceIte, Nat.reduceEqDiff, Nat.reduceAdd, Nat.reduceSub, Nat.reduceMul, Nat.reduceLT, Nat.reduceLeDiff, reduceCtorEq, Int.reduceToNat, Int.reduceLT, Int.reduceLE, Int.reduceAdd, Int.reduceSub, Int.reduceMul, Int.reduceNeg, Int.reduceEq, Nat.reduceMod, forall_eq_or_imp, forall_eq, forall_const, cond_true, cond_false, decide_true, decide_false, true_imp_iff, implies_true, Int.cast_ofNat_Int, forall_eq']
  rw [wrap64_in (show In64 (0 - n) by unfold In64; unfold In29 at hn; omega), w2]
  refine ⟨fun g => ?_, fun g => ⟨fun g => ?_, fun g => ?_⟩⟩
  · rw [hd] at g; simp at g
  · refine callK_ro (h1) ?_ ?_
    · simp only [↓EVP0, EVQ0, EVQ1, EVQ2, EVQ3, EVQ4, EVA, EVK, EVFR, ↓reduceIte, Nat.reduceEqDiff, Nat.reduceAdd, Nat.reduceSub, Nat.reduceMul, Nat.reduceLT, Nat.reduceLeDiff, reduceCtorEq, Int.reduceToNat, Int.reduceLT, Int.reduceLE, Int.reduceAdd, Int.reduceSub, Int.reduceMul, Int.reduceNeg, Int.reduceEq, Nat.reduceMod, forall_eq_or_imp, forall_eq, forall_const, cond_true, cond_false, decide_true, decide_false, true_imp_iff, implies_true, Int.cast_ofNat_Int, forall_eq']
    simp only [↓EVP0, EVQ0, EVQ1, EVQ2, EVQ3, EVQ4, EVA, EVK, EVFR, ↓reduceIte, Nat.reduceEqDiff, Nat.reduceAdd, Nat.reduceSub, Nat.reduceMul, Nat.reduceLT, Nat.reduceLeDiff, reduceCtorEq, Int.reduceToNat, Int.reduceLT, Int.reduceLE, Int.reduceAdd, Int.reduceSub, Int.reduceMul, Int.reduceNeg, Int.reduceEq, Nat.reduceMod, forall_eq_or_imp, forall_eq, forall_const, cond_true, cond_false, decide_true, decide_false, true_imp_iff, implies_true, Int.cast_ofNat_Int, forall_eq']
    refine callK_ro (h2) ?_ ?_
    · simp only [↓EVP0, EVQ0, EVQ1, EVQ2, EVQ3, EVQ4, EVA, EVK, EVFR, ↓reduceIte, Nat.reduceEqDiff, Nat.reduceAdd, Nat.reduceSub, Nat.reduceMul, Nat.reduceLT, Nat.reduceLeDiff, reduceCtorEq, Int.reduceToNat, Int.reduceLT, Int.reduceLE, Int.reduceAdd, Int.reduceSub, Int.reduceMul, Int.reduceNeg, Int.reduceEq, Nat.reduceMod, forall_eq_or_imp, forall_eq, forall_const, cond_true, cond_false, decide_true, decide_false, true_imp_iff, implies_true, Int.cast_ofNat_Int, forall_eq']
    simp only [↓EVP0, EVQ0, EVQ1, EVQ2, EVQ3, EVQ4, EVA, EVK, EVFR, ↓reduceIte, Nat.reduceEqDiff, Nat.reduceAdd, Nat.reduceSub, Nat.reduceMul, Nat.reduceLT, Nat.reduceLeDiff, reduceCtorEq, Int.reduceToNat, Int.reduceLT, Int.reduceLE, Int.reduceAdd, Int.reduceSub, Int.reduceMul, Int.reduceNeg, Int.reduceEq, Nat.reduceMod, forall_eq_or_imp, forall_eq, forall_const, cond_true, cond_false, decide_true, decide_false, true_imp_iff, implies_true, Int.cast_ofNat_Int, forall_eq']
    refine ⟨⟨by omega, i1⟩, ⟨by omega, i2⟩, ?_⟩
    refine callK_ro (h4) ?_ ?_
    · simp only [↓EVP0, EVQ0, EVQ1, EVQ2, EVQ3, EVQ4, EVA, EVK, EVFR, ↓reduceIte, Nat.reduceEqDiff, Nat.reduceAdd, Nat.reduceSub, Nat.reduceMul, Nat.reduceLT, Nat.reduceLeDiff, reduceCtorEq, Int.reduceToNat, Int.reduceLT, Int.reduceLE, Int.reduceAdd, Int.reduceSub, Int.reduceMul, Int.reduceNeg, Int.reduceEq, Nat.reduceMod, forall_eq_or_imp, forall_eq, forall_const, cond_true, cond_false, decide_true, decide_false, true_imp_iff, implies_true, Int.cast_ofNat_Int, forall_eq']
    simp only [↓EVP0, EVQ0, EVQ1, EVQ2, EVQ3, EVQ4, EVA, EVK, EVFR, ↓reduceIte, Nat.reduceEqDiff, Nat.reduceAdd, Nat.reduceSub, Nat.reduceMul, Nat.reduceLT, Nat.reduceLeDiff, reduceCtorEq, Int.reduceToNat, Int.reduceLT, Int.reduceLE, Int.reduceAdd, Int.reduceSub, Int.reduceMul, Int.reduceNeg, Int.reduceEq, Nat.reduceMod, forall_eq_or_imp, forall_eq, forall_const, cond_true, cond_false, decide_true, decide_false, true_imp_iff, implies_true, Int.cast_ofNat_Int, forall_eq']
    refine ⟨fun g => ?_, fun g => ?_⟩
    · rw [if_neg (by simpa using g)]; exact ⟨⟨rfl, rfl⟩, rfl⟩
    · rw [if_pos (by simpa using g)]; exact ⟨⟨rfl, rfl⟩, rfl⟩
  · rw [hd] at g; simp at g
theorem ev_lawOf (n d : Int) (r : Rt) (hn : In64 n) (hd : In64 d) (hr : RtOk r) : Ev Try.prog 5 [.sc (.int .i64 n), .sc (.int .i64 d), ratV r] (.sc (.bool true)) := by
  have h0 := ev_awake
  have v1 := ev_valid r hr
  have p1 := ev_plain r
  have v2 := ev_rvalid r
  have o1 := ev_of n d hn hd
  have s1 := ev_small [n, d] (by simp)
  have i1 := ev_is
  unfold intsV at s1
  unfold rrV ratV at *
  refine ev_fn Try.func5 comp5 (show 3 ≤ Try.f5.ntmps by decide) ?_; unfold cf5 rf5; simp only [↓EVP0, EVQ0, EVQ1, EVQ2, EVQ3, EVQ4, EVA, EVK, EVFR, ↓reduceIte, Nat.reduceEqDiff, Nat.reduceAdd, Nat.reduceSub, Nat.reduceMul, Nat.reduceLT, Nat.reduceLeDiff, reduceCtorEq, Int.reduceToNat, Int.reduceLT, Int.reduceLE, Int.reduceAdd, Int.reduceSub, Int.reduceMul, Int.reduceNeg, Int.reduceEq, Nat.reduceMod, forall_eq_or_imp, forall_eq, forall_const, cond_true, cond_false, decide_true, decide_false, true_imp_iff, implies_true, Int.cast_ofNat_Int, forall_eq']
  refine callK_ro (h0) ?_ ?_
  · simp only [↓EVP0, EVQ0, EVQ1, EVQ2, EVQ3, EVQ4, EVA, EVK, EVFR, ↓reduceIte, Nat.reduceEqDiff, Nat.reduceAdd, Nat.reduceSub, Nat.reduceMul, Nat.reduceLT, Nat.reduceLeDiff, reduceCtorEq, Int.reduceToNat, Int.reduceLT, Int.reduceLE, Int.reduceAdd, Int.reduceSub, Int.reduceMul, Int.reduceNeg, Int.reduceEq, Nat.reduceMod, forall_eq_or_imp, forall_eq, forall_const, cond_true, cond_false, decide_true, decide_false, true_imp_iff, implies_true, Int.cast_ofNat_Int, forall_eq']
  simp only [↓EVP0, EVQ0, EVQ1, EVQ2, EVQ3, EVQ4, EVA, EVK, EVFR, ↓reduceIte, Nat.reduceEqDiff, Nat.reduceAdd, Nat.reduceSub, Nat.reduceMul, Nat.reduceLT, Nat.reduceLeDiff, reduceCtorEq, Int.reduceToNat, Int.reduceLT, Int.reduceLE, Int.reduceAdd, Int.reduceSub, Int.reduceMul, Int.reduceNeg, Int.reduceEq, Nat.reduceMod, forall_eq_or_imp, forall_eq, forall_const, cond_true, cond_false, decide_true, decide_false, true_imp_iff, implies_true, Int.cast_ofNat_Int, forall_eq']
  (first | refine lopsQ_gcall ?_ | refine lopsQ_gecl ?_); (simp only [↓EVP0, EVQ0, EVQ1, EVQ2, EVQ3, EVQ4, EVA, EVK, EVFR, ↓reduceIte, Nat.reduceEqDiff, Nat.reduceAdd, Nat.reduceSub, Nat.reduceMul, Nat.reduceLT, Nat.reduceLeDiff, reduceCtorEq, Int.reduceToNat, Int.reduceLT, Int.reduceLE, Int.reduceAdd, Int.reduceSub, Int.reduceMul, Int.reduceNeg, Int.reduceEq, Nat.reduceMod, forall_eq_or_imp, forall_eq, forall_const, cond_true, cond_false, decide_true, decide_false, true_imp_iff, implies_true, Int.cast_ofNat_Int, forall_eq'])
  first | refine gCallK_ro _ (fun _ => v1) (fun _ => ?_) ?_ | refine geCallK_ro _ (fun _ => v1) (fun _ => ?_) ?_
  · simp only [↓EVP0, EVQ0, EVQ1, EVQ2, EVQ3, EVQ4, EVA, EVK, EVFR, ↓reduceIte, Nat.reduceEqDiff, Nat.reduceAdd, Nat.reduceSub, Nat.reduceMul, Nat.reduceLT, Nat.reduceLeDiff, reduceCtorEq, Int.reduceToNat, Int.reduceLT, Int.reduceLE, Int.reduceAdd, Int.reduceSub, Int.reduceMul, Int.reduceNeg, Int.reduceEq, Nat.reduceMod, forall_eq_or_imp, forall_eq, forall_const, cond_true, cond_false, decide_true, decide_false, true_imp_iff, implies_true, Int.cast_ofNat_Int, forall_eq']
  simp only [↓EVP0, EVQ0, EVQ1, EVQ2, EVQ3, EVQ4, EVA, EVK, EVFR, ↓reduceIte, Nat.reduceEqDiff, Nat.reduceAdd, Nat.reduceSub, Nat.reduceMul, Nat.reduceLT, Nat.reduceLeDiff, reduceCtorEq, Int.reduceToNat, Int.reduceLT, Int.reduceLE, Int.reduceAdd, Int.reduceSub, Int.reduceMul, Int.reduceNeg, Int.reduceEq, Nat.reduceMod, forall_eq_or_imp, forall_eq, forall_const, cond_true, cond_false, decide_true, decide_false, true_imp_iff, implies_true, Int.cast_ofNat_Int, forall_eq']
  (first | refine lopsQ_gcall ?_ | refine lopsQ_gecl ?_); (simp only [↓EVP0, EVQ0, EVQ1, EVQ2, EVQ3, EVQ4, EVA, EVK, EVFR, ↓reduceIte, Nat.reduceEqDiff, Nat.reduceAdd, Nat.reduceSub, Nat.reduceMul, Nat.reduceLT, Nat.reduceLeDiff, reduceCtorEq, Int.reduceToNat, Int.reduceLT, Int.reduceLE, Int.reduceAdd, Int.reduceSub, Int.reduceMul, Int.reduceNeg, Int.reduceEq, Nat.reduceMod, forall_eq_or_imp, forall_eq, forall_const, cond_true, cond_false, decide_true, decide_false, true_imp_iff, implies_true, Int.cast_ofNat_Int, forall_eq'])
  first | refine gCallK_ro _ (fun _ => p1) (fun _ => ?_) ?_ | refine geCallK_ro _ (fun _ => p1) (fun _ => ?_) ?_
  · simp only [↓EVP0, EVQ0, EVQ1, EVQ2, EVQ3, EVQ4, EVA, EVK, EVFR, ↓reduceIte, Nat.reduceEqDiff, Nat.reduceAdd, Nat.reduceSub, Nat.reduceMul, Nat.reduceLT, Nat.reduceLeDiff, reduceCtorEq, Int.reduceToNat, Int.reduceLT, Int.reduceLE, Int.reduceAdd, Int.reduceSub, Int.reduceMul, Int.reduceNeg, Int.reduceEq, Nat.reduceMod, forall_eq_or_imp, forall_eq, forall_const, cond_true, cond_false, decide_true, decide_false, true_imp_iff, implies_true, Int.cast_ofNat_Int, forall_eq']
  simp only [↓EVP0, EVQ0, EVQ1, EVQ2, EVQ3, EVQ4, EVA, EVK, EVFR, ↓reduceIte, Nat.reduceEqDiff, Nat.reduceAdd, Nat.reduceSub, Nat.reduceMul, Nat.reduceLT, Nat.reduceLeDiff, reduceCtorEq, Int.reduceToNat, Int.reduceLT, Int.reduceLE, Int.reduceAdd, Int.reduceSub, Int.reduceMul, Int.reduceNeg, Int.reduceEq, Nat.reduceMod, forall_eq_or_imp, forall_eq, forall_const, cond_true, cond_false, decide_true, decide_false, true_imp_iff, implies_true, Int.cast_ofNat_Int, forall_eq']
  (first | refine lopsQ_gcall ?_ | refine lopsQ_gecl ?_); (simp only [↓EVP0, EVQ0, EVQ1, EVQ2, EVQ3, EVQ4, EVA, EVK, EVFR, ↓reduceIte, Nat.reduceEqDiff, Nat.reduceAdd, Nat.reduceSub, Nat.reduceMul, Nat.reduceLT, Nat.reduceLeDiff, reduceCtorEq, Int.reduceToNat, Int.reduceLT, Int.reduceLE, Int.reduceAdd, Int.reduceSub, Int.reduceMul, Int.reduceNeg, Int.reduceEq, Nat.reduceMod, forall_eq_or_imp, forall_eq, forall_const, cond_true, cond_false, decide_true, decide_false, true_imp_iff, implies_true, Int.cast_ofNat_Int, forall_eq'])
  first | refine gCallK_ro _ (fun _ => v2) (fun _ => ?_) ?_ | refine geCallK_ro _ (fun _ => v2) (fun _ => ?_) ?_
  · simp only [↓EVP0, EVQ0, EVQ1, EVQ2, EVQ3, EVQ4, EVA, EVK, EVFR, ↓reduceIte, Nat.reduceEqDiff, Nat.reduceAdd, Nat.reduceSub, Nat.reduceMul, Nat.reduceLT, Nat.reduceLeDiff, reduceCtorEq, Int.reduceToNat, Int.reduceLT, Int.reduceLE, Int.reduceAdd, Int.reduceSub, Int.reduceMul, Int.reduceNeg, Int.reduceEq, Nat.reduceMod, forall_eq_or_imp, forall_eq, forall_const, cond_true, cond_false, decide_true, decide_false, true_imp_iff, implies_true, Int.cast_ofNat_Int, forall_eq']
  simp only [↓EVP0, EVQ0, EVQ1, EVQ2, EVQ3, EVQ4, EVA, EVK, EVFR, ↓reduceIte, Nat.reduceEqDiff, Nat.reduceAdd, Nat.reduceSub, Nat.reduceMul, Nat.reduceLT, Nat.reduceLeDiff, reduceCtorEq, Int.reduceToNat, Int.reduceLT, Int.reduceLE, Int.reduceAdd, Int.reduceSub, Int.reduceMul, Int.reduceNeg, Int.reduceEq, Nat.reduceMod, forall_eq_or_imp, forall_eq, forall_const, cond_true, cond_false, decide_true, decide_false, true_imp_iff, implies_true, Int.cast_ofNat_Int, forall_eq']
  refine ⟨fun g => ?_, fun _ => ?_⟩
  · exfalso
    cases h : (bif !decide (r.n = -9223372036854775808) then !decide (r.d = -9223372036854775808) else false) <;> rw [h] at g <;> simp at g
  refine callK_ro (o1) ?_ ?_
  · simp only [↓EVP0, EVQ0, EVQ1, EVQ2, EVQ3, EVQ4, EVA, EVK, EVFR, ↓reduceIte, Nat.reduceEqDiff, Nat.reduceAdd, Nat.reduceSub, Nat.reduceMul, Nat.reduceLT, Nat.reduceLeDiff, reduceCtorEq, Int.reduceToNat, Int.reduceLT, Int.reduceLE, Int.reduceAdd, Int.reduceSub, Int.reduceMul, Int.reduceNeg, Int.reduceEq, Nat.reduceMod, forall_eq_or_imp, forall_eq, forall_const, cond_true, cond_false, decide_true, decide_false, true_imp_iff, implies_true, Int.cast_ofNat_Int, forall_eq']
  simp only [↓EVP0, EVQ0, EVQ1, EVQ2, EVQ3, EVQ4, EVA, EVK, EVFR, ↓reduceIte, Nat.reduceEqDiff, Nat.reduceAdd, Nat.reduceSub, Nat.reduceMul, Nat.reduceLT, Nat.reduceLeDiff, reduceCtorEq, Int.reduceToNat, Int.reduceLT, Int.reduceLE, Int.reduceAdd, Int.reduceSub, Int.reduceMul, Int.reduceNeg, Int.reduceEq, Nat.reduceMod, forall_eq_or_imp, forall_eq, forall_const, cond_true, cond_false, decide_true, decide_false, true_imp_iff, implies_true, Int.cast_ofNat_Int, forall_eq']
  refine ⟨fun g => ?_, fun g => ⟨fun g2 => ?_, fun g2 => ?_⟩⟩
  · have h : d = 0 := by simpa using g
    unfold ofR; rw [if_pos h]; rfl
  · have h : d ≠ 0 := by simpa using g
    have hs : smallB [n, d] = false := by
      cases h1 : smallB [n, d]
      · rfl
      · rw [of_small (small_mem h1 (by simp)) (small_mem h1 (by simp)) h] at g2
        simp at g2
    rw [hs] at s1
    rcases of_cases (n := n) h with h2 | h2
    · rw [h2.1] at g2; simp at g2
    rw [h2]
    (refine lops_ge_imp ?_; simp only [↓EVP0, EVQ0, EVQ1, EVQ2, EVQ3, EVQ4, EVA, EVK, EVFR, ↓reduceIte, Nat.reduceEqDiff, Nat.reduceAdd, Nat.reduceSub, Nat.reduceMul, Nat.reduceLT, Nat.reduceLeDiff, reduceCtorEq, Int.reduceToNat, Int.reduceLT, Int.reduceLE, Int.reduceAdd, Int.reduceSub, Int.reduceMul, Int.reduceNeg, Int.reduceEq, Nat.reduceMod, forall_eq_or_imp, forall_eq, forall_const, cond_true, cond_false, decide_true, decide_false, true_imp_iff, implies_true, Int.cast_ofNat_Int, forall_eq'])
    (refine lops_ge_imp ?_; simp only [↓EVP0, EVQ0, EVQ1, EVQ2, EVQ3, EVQ4, EVA, EVK, EVFR, ↓reduceIte, Nat.reduceEqDiff, Nat.reduceAdd, Nat.reduceSub, Nat.reduceMul, Nat.reduceLT, Nat.reduceLeDiff, reduceCtorEq, Int.reduceToNat, Int.reduceLT, Int.reduceLE, Int.reduceAdd, Int.reduceSub, Int.reduceMul, Int.reduceNeg, Int.reduceEq, Nat.reduceMod, forall_eq_or_imp, forall_eq, forall_const, cond_true, cond_false, decide_true, decide_false, true_imp_iff, implies_true, Int.cast_ofNat_Int, forall_eq'])
    first | refine gCallK_frz _ (fun _ => s1) (fun _ => ?_) ?_ ?_ | refine callK_frz s1 ?_ ?_ ?_
    · simp only [↓EVP0, EVQ0, EVQ1, EVQ2, EVQ3, EVQ4, EVA, EVK, EVFR, ↓reduceIte, Nat.reduceEqDiff, Nat.reduceAdd, Nat.reduceSub, Nat.reduceMul, Nat.reduceLT, Nat.reduceLeDiff, reduceCtorEq, Int.reduceToNat, Int.reduceLT, Int.reduceLE, Int.reduceAdd, Int.reduceSub, Int.reduceMul, Int.reduceNeg, Int.reduceEq, Nat.reduceMod, forall_eq_or_imp, forall_eq, forall_const, cond_true, cond_false, decide_true, decide_false, true_imp_iff, implies_true, Int.cast_ofNat_Int, forall_eq']
    · simp only [↓EVP0, EVQ0, EVQ1, EVQ2, EVQ3, EVQ4, EVA, EVK, EVFR, ↓reduceIte, Nat.reduceEqDiff, Nat.reduceAdd, Nat.reduceSub, Nat.reduceMul, Nat.reduceLT, Nat.reduceLeDiff, reduceCtorEq, Int.reduceToNat, Int.reduceLT, Int.reduceLE, Int.reduceAdd, Int.reduceSub, Int.reduceMul, Int.reduceNeg, Int.reduceEq, Nat.reduceMod, forall_eq_or_imp, forall_eq, forall_const, cond_true, cond_false, decide_true, decide_false, true_imp_iff, implies_true, Int.cast_ofNat_Int, forall_eq']
    simp only [↓EVP0, EVQ0, EVQ1, EVQ2, EVQ3, EVQ4, EVA, EVK, EVFR, ↓reduceIte, Nat.reduceEqDiff, Nat.reduceAdd, Nat.reduceSub, Nat.reduceMul, Nat.reduceLT, Nat.reduceLeDiff, reduceCtorEq, Int.reduceToNat, Int.reduceLT, Int.reduceLE, Int.reduceAdd, Int.reduceSub, Int.reduceMul, Int.reduceNeg, Int.reduceEq, Nat.reduceMod, forall_eq_or_imp, forall_eq, forall_const, cond_true, cond_false, decide_true, decide_false, true_imp_iff, implies_true, Int.cast_ofNat_Int, forall_eq']
  · have h : d ≠ 0 := by simpa using g
    have hok : (ofR n d).2 = 0 := by simpa using g2
    have hL : Low (ofR n d).1 := by
      rcases of_cases (n := n) h with h2 | h2
      · exact h2.2
      · rw [h2] at hok; simp at hok
    have hq : ∃ q : Rt × Int, Ev Try.prog 25 [.sc (.int .i64 (n.tmod 536870912)), .sc (.int .i64 d)] (rrV q) ∧ (smallB [n, d] = true → n.tmod 536870912 = n → q = ofR n d) := by
      by_cases hm : d = -9223372036854775808
      · have h8 : (8 : Int) ∣ n := by
          unfold ofR at hok
          rw [if_neg h, if_pos (by omega), show mag d = 9223372036854775808 by rw [hm]; rfl] at hok
          have := low_eight hok
          omega
        obtain ⟨q, hq⟩ := ev_rofMin _ d (tmod_29 n) (tmod_eight h8) hm
        refine ⟨q, hq, fun hs _ => ?_⟩
        have := small_mem hs (x := d) (by simp)
        unfold In29 at this
        omega
      · refine ⟨_, ev_rof (n.tmod 536870912) d ?_ ?_, fun _ e => by rw [e]⟩
        · have := tmod_29 n
          unfold In29 at this
          unfold In63; omega
        · unfold In64 at hd
          unfold In63; omega
    obtain ⟨q, q1, q2⟩ := hq
    have v3 := ev_valid (ofR n d).1 ⟨by have := hL; unfold Low at this; unfold In64; omega, by have := hL; unfold Low at this; unfold In64; omega⟩
    rw [(low_vld hL).1] at v3
    unfold rrV ratV at *
    refine callK_ro (v3) ?_ ?_
    · simp only [↓EVP0, EVQ0, EVQ1, EVQ2, EVQ3, EVQ4, EVA, EVK, EVFR, ↓reduceIte, Nat.reduceEqDiff, Nat.reduceAdd, Nat.reduceSub, Nat.reduceMul, Nat.reduceLT, Nat.reduceLeDiff, reduceCtorEq, Int.reduceToNat, Int.reduceLT, Int.reduceLE, Int.reduceAdd, Int.reduceSub, Int.reduceMul, Int.reduceNeg, Int.reduceEq, Nat.reduceMod, forall_eq_or_imp, forall_eq, forall_const, cond_true, cond_false, decide_true, decide_false, true_imp_iff, implies_true, Int.cast_ofNat_Int, forall_eq']
    simp only [↓EVP0, EVQ0, EVQ1, EVQ2, EVQ3, EVQ4, EVA, EVK, EVFR, ↓reduceIte, Nat.reduceEqDiff, Nat.reduceAdd, Nat.reduceSub, Nat.reduceMul, Nat.reduceLT, Nat.reduceLeDiff, reduceCtorEq, Int.reduceToNat, Int.reduceLT, Int.reduceLE, Int.reduceAdd, Int.reduceSub, Int.reduceMul, Int.reduceNeg, Int.reduceEq, Nat.reduceMod, forall_eq_or_imp, forall_eq, forall_const, cond_true, cond_false, decide_true, decide_false, true_imp_iff, implies_true, Int.cast_ofNat_Int, forall_eq']
    refine ⟨fun g => ?_, fun _ => ⟨by decide, ?_⟩⟩
    · have := hL.1
      simp at g; omega
    refine callK_ro (q1) ?_ ?_
    · simp only [↓EVP0, EVQ0, EVQ1, EVQ2, EVQ3, EVQ4, EVA, EVK, EVFR, ↓reduceIte, Nat.reduceEqDiff, Nat.reduceAdd, Nat.reduceSub, Nat.reduceMul, Nat.reduceLT, Nat.reduceLeDiff, reduceCtorEq, Int.reduceToNat, Int.reduceLT, Int.reduceLE, Int.reduceAdd, Int.reduceSub, Int.reduceMul, Int.reduceNeg, Int.reduceEq, Nat.reduceMod, forall_eq_or_imp, forall_eq, forall_const, cond_true, cond_false, decide_true, decide_false, true_imp_iff, implies_true, Int.cast_ofNat_Int, forall_eq']
    simp only [↓EVP0, EVQ0, EVQ1, EVQ2, EVQ3, EVQ4, EVA, EVK, EVFR, ↓reduceIte, Nat.reduceEqDiff, Nat.reduceAdd, Nat.reduceSub, Nat.reduceMul, Nat.reduceLT, Nat.reduceLeDiff, reduceCtorEq, Int.reduceToNat, Int.reduceLT, Int.reduceLE, Int.reduceAdd, Int.reduceSub, Int.reduceMul, Int.reduceNeg, Int.reduceEq, Nat.reduceMod, forall_eq_or_imp, forall_eq, forall_const, cond_true, cond_false, decide_true, decide_false, true_imp_iff, implies_true, Int.cast_ofNat_Int, forall_eq']
    have j1 := i1 (ofR n d).1 (ofR n d).2 q.1 q.2
    have s2 := s1
    refine callK_frz s1 ?_ ?_ ?_
    · simp only [↓EVP0, EVQ0, EVQ1, EVQ2, EVQ3, EVQ4, EVA, EVK, EVFR, ↓reduceIte, Nat.reduceEqDiff, Nat.reduceAdd, Nat.reduceSub, Nat.reduceMul, Nat.reduceLT, Nat.reduceLeDiff, reduceCtorEq, Int.reduceToNat, Int.reduceLT, Int.reduceLE, Int.reduceAdd, Int.reduceSub, Int.reduceMul, Int.reduceNeg, Int.reduceEq, Nat.reduceMod, forall_eq_or_imp, forall_eq, forall_const, cond_true, cond_false, decide_true, decide_false, true_imp_iff, implies_true, Int.cast_ofNat_Int, forall_eq']
    · simp only [↓EVP0, EVQ0, EVQ1, EVQ2, EVQ3, EVQ4, EVA, EVK, EVFR, ↓reduceIte, Nat.reduceEqDiff, Nat.reduceAdd, Nat.reduceSub, Nat.reduceMul, Nat.reduceLT, Nat.reduceLeDiff, reduceCtorEq, Int.reduceToNat, Int.reduceLT, Int.reduceLE, Int.reduceAdd, Int.reduceSub, Int.reduceMul, Int.reduceNeg, Int.reduceEq, Nat.reduceMod, forall_eq_or_imp, forall_eq, forall_const, cond_true, cond_false, decide_true, decide_false, true_imp_iff, implies_true, Int.cast_ofNat_Int, forall_eq']
    simp only [↓EVP0, EVQ0, EVQ1, EVQ2, EVQ3, EVQ4, EVA, EVK, EVFR, ↓reduceIte, Nat.reduceEqDiff, Nat.reduceAdd, Nat.reduceSub, Nat.reduceMul, Nat.reduceLT, Nat.reduceLeDiff, reduceCtorEq, Int.reduceToNat, Int.reduceLT, Int.reduceLE, Int.reduceAdd, Int.reduceSub, Int.reduceMul, Int.reduceNeg, Int.reduceEq, Nat.reduceMod, forall_eq_or_imp, forall_eq, forall_const, cond_true, cond_false, decide_true, decide_false, true_imp_iff, implies_true, Int.cast_ofNat_Int, forall_eq']
    refine ⟨fun _ => by decide, ?_⟩
    have hj : (!smallB [n, d] || !decide (n.tmod 536870912 = n)) = false → isB (ofR n d).1 (ofR n d).2 q.1 q.2 = true := by
      intro h5
      simp only [Bool.or_eq_false_iff, Bool.not_eq_false', decide_eq_true_eq] at h5
      rw [q2 h5.1 h5.2, is_refl]
    (refine lops_ge_imp ?_; simp only [↓EVP0, EVQ0, EVQ1, EVQ2, EVQ3, EVQ4, EVA, EVK, EVFR, ↓reduceIte, Nat.reduceEqDiff, Nat.reduceAdd, Nat.reduceSub, Nat.reduceMul, Nat.reduceLT, Nat.reduceLeDiff, reduceCtorEq, Int.reduceToNat, Int.reduceLT, Int.reduceLE, Int.reduceAdd, Int.reduceSub, Int.reduceMul, Int.reduceNeg, Int.reduceEq, Nat.reduceMod, forall_eq_or_imp, forall_eq, forall_const, cond_true, cond_false, decide_true, decide_false, true_imp_iff, implies_true, Int.cast_ofNat_Int, forall_eq'])
    refine gCallK_ro _ (fun _ => j1) (fun _ => ?_) ?_
    · simp only [↓EVP0, EVQ0, EVQ1, EVQ2, EVQ3, EVQ4, EVA, EVK, EVFR, ↓reduceIte, Nat.reduceEqDiff, Nat.reduceAdd, Nat.reduceSub, Nat.reduceMul, Nat.reduceLT, Nat.reduceLeDiff, reduceCtorEq, Int.reduceToNat, Int.reduceLT, Int.reduceLE, Int.reduceAdd, Int.reduceSub, Int.reduceMul, Int.reduceNeg, Int.reduceEq, Nat.reduceMod, forall_eq_or_imp, forall_eq, forall_const, cond_true, cond_false, decide_true, decide_false, true_imp_iff, implies_true, Int.cast_ofNat_Int, forall_eq']
    simp only [↓EVP0, EVQ0, EVQ1, EVQ2, EVQ3, EVQ4, EVA, EVK, EVFR, ↓reduceIte, Nat.reduceEqDiff, Nat.reduceAdd, Nat.reduceSub, Nat.reduceMul, Nat.reduceLT, Nat.reduceLeDiff, reduceCtorEq, Int.reduceToNat, Int.reduceLT, Int.reduceLE, Int.reduceAdd, Int.reduceSub, Int.reduceMul, Int.reduceNeg, Int.reduceEq, Nat.reduceMod, forall_eq_or_imp, forall_eq, forall_const, cond_true, cond_false, decide_true, decide_false, true_imp_iff, implies_true, Int.cast_ofNat_Int, forall_eq']
    generalize isB (ofR n d).1 (ofR n d).2 q.1 q.2 = w at *
    generalize smallB [n, d] = a at *
    generalize decide (n.tmod 536870912 = n) = b at *
    cases a <;> cases b <;> simp at hj ⊢ <;> first | rfl | exact hj
end Go.Proofs.Ytfhifkcbdpgomaa
