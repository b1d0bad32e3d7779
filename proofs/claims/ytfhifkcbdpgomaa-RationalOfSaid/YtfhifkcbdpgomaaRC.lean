/- The number of bits of a number. Conditions: none. -/
import Derived.Test.YtfhifkcbdpgomaaRB
namespace Go.Proofs.Ytfhifkcbdpgomaa
set_option linter.unusedSimpArgs false
set_option linter.unusedVariables false
open Go.RowKit
set_option maxRecDepth 20000

/-- L is the number of bits of x. -/
def isLen (x L : Nat) : Prop := (x = 0 ∧ L = 0) ∨ (1 ≤ L ∧ 2 ^ (L - 1) ≤ x ∧ x < 2 ^ L)
def len8 (x : Nat) : Nat := bif decide (x = 0) then 0 else bif decide (x < 2) then 1 else bif decide (x < 4) then 2 else bif decide (x < 8) then 3 else bif decide (x < 16) then 4 else bif decide (x < 32) then 5 else bif decide (x < 64) then 6 else bif decide (x < 128) then 7 else 8
theorem len8_ok (x : Nat) (h : x < 256) : isLen x (len8 x) := by
  unfold isLen len8
  by_cases h0 : x = 0
  · simp [h0]
  · right
    simp only [decide_eq_false h0, cond_false]
    by_cases h1 : x < 2
    · simp [h1]; omega
    · by_cases h2 : x < 4
      · simp [h1, h2]; omega
      · by_cases h3 : x < 8
        · simp [h1, h2, h3]; omega
        · by_cases h4 : x < 16
          · simp [h1, h2, h3, h4]; omega
          · by_cases h5 : x < 32
            · simp [h1, h2, h3, h4, h5]; omega
            · by_cases h6 : x < 64
              · simp [h1, h2, h3, h4, h5, h6]; omega
              · by_cases h7 : x < 128
                · simp [h1, h2, h3, h4, h5, h6, h7]; omega
                · simp [h1, h2, h3, h4, h5, h6, h7]; omega
theorem isLen_div {x L k : Nat} (h : isLen (x / 2 ^ k) L) (hx : 2 ^ k ≤ x) : isLen x (L + k) := by
  have hp : 0 < 2 ^ k := Nat.pow_pos (by decide)
  rcases h with ⟨h1, h2⟩ | ⟨h1, h2, h3⟩
  · have : 1 ≤ x / 2 ^ k := (Nat.le_div_iff_mul_le hp).2 (by omega)
    omega
  · refine .inr ⟨by omega, ?_, ?_⟩
    · have := (Nat.le_div_iff_mul_le hp).1 h2
      rw [← Nat.pow_add] at this
      rw [show L + k - 1 = L - 1 + k by omega]; exact this
    · have := (Nat.div_lt_iff_lt_mul hp).1 h3
      rw [← Nat.pow_add] at this; exact this
def lenA (x : Nat) : Nat := bif decide (256 ≤ x) then len8 (x / 256) + 8 else len8 x
def lenB (x : Nat) : Nat := bif decide (65536 ≤ x) then lenA (x / 65536) + 16 else lenA x
def lenC64 (x : Nat) : Nat := bif decide (4294967296 ≤ x) then lenB (x / 4294967296) + 32 else lenB x
theorem lenA_ok (x : Nat) (h : x < 65536) : isLen x (lenA x) := by
  unfold lenA
  by_cases h0 : 256 ≤ x
  · rw [decide_eq_true h0]; exact isLen_div (k := 8) (len8_ok _ (by omega)) h0
  · rw [decide_eq_false h0]; exact len8_ok _ (by omega)
theorem lenB_ok (x : Nat) (h : x < 4294967296) : isLen x (lenB x) := by
  unfold lenB
  by_cases h0 : 65536 ≤ x
  · rw [decide_eq_true h0]; exact isLen_div (k := 16) (lenA_ok _ (by omega)) h0
  · rw [decide_eq_false h0]; exact lenA_ok _ (by omega)
theorem lenC64_ok (x : Nat) (h : x < 18446744073709551616) : isLen x (lenC64 x) := by
  unfold lenC64
  by_cases h0 : 4294967296 ≤ x
  · rw [decide_eq_true h0]; exact isLen_div (k := 32) (lenB_ok _ (by omega)) h0
  · rw [decide_eq_false h0]; exact lenB_ok _ (by omega)
theorem tab8 : ∀ i, i < 256 → (sbyte ⟨#[0, 1, 2, 2, 3, 3, 3, 3, 4, 4, 4, 4, 4, 4, 4, 4, 5, 5, 5, 5, 5, 5, 5, 5, 5, 5, 5, 5, 5, 5, 5, 5, 6, 6, 6, 6, 6, 6, 6, 6, 6, 6, 6, 6, 6, 6, 6, 6, 6, 6, 6, 6, 6, 6, 6, 6, 6, 6, 6, 6, 6, 6, 6, 6, 7, 7, 7, 7, 7, 7, 7, 7, 7, 7, 7, 7, 7, 7, 7, 7, 7, 7, 7, 7, 7, 7, 7, 7, 7, 7, 7, 7, 7, 7, 7, 7, 7, 7, 7, 7, 7, 7, 7, 7, 7, 7, 7, 7, 7, 7, 7, 7, 7, 7, 7, 7, 7, 7, 7, 7, 7, 7, 7, 7, 7, 7, 7, 7, 8, 8, 8, 8, 8, 8, 8, 8, 8, 8, 8, 8, 8, 8, 8, 8, 8, 8, 8, 8, 8, 8, 8, 8, 8, 8, 8, 8, 8, 8, 8, 8, 8, 8, 8, 8, 8, 8, 8, 8, 8, 8, 8, 8, 8, 8, 8, 8, 8, 8, 8, 8, 8, 8, 8, 8, 8, 8, 8, 8, 8, 8, 8, 8, 8, 8, 8, 8, 8, 8, 8, 8, 8, 8, 8, 8, 8, 8, 8, 8, 8, 8, 8, 8, 8, 8, 8, 8, 8, 8, 8, 8, 8, 8, 8, 8, 8, 8, 8, 8, 8, 8, 8, 8, 8, 8, 8, 8, 8, 8, 8, 8, 8, 8, 8, 8, 8, 8, 8, 8, 8, 8, 8, 8, 8, 8, 8, 8]⟩ i).toNat = len8 i := by decide +kernel
theorem fdiv_16 (x : Int) : x.fdiv (2 ^ 16) = x / 65536 := Int.fdiv_eq_ediv_of_nonneg _ (by decide)
theorem fdiv_8 (x : Int) : x.fdiv (2 ^ 8) = x / 256 := Int.fdiv_eq_ediv_of_nonneg _ (by decide)
theorem len8_le (n : Nat) : len8 n ≤ 8 := by
  unfold len8
  cases decide (n = 0) <;> cases decide (n < 2) <;> cases decide (n < 4) <;> cases decide (n < 8) <;> cases decide (n < 16) <;> cases decide (n < 32) <;> cases decide (n < 64) <;> cases decide (n < 128) <;> simp
theorem leaf8 {tb : ByteArray} (ht : ∀ i, i < 256 → (sbyte tb i).toNat = len8 i) (hs : tb.size = 256) {e : Int} (n : Nat) (he : e = n) (hn : n < 256) {b : Int} (B : Nat) (hb : b = B) (hB : B ≤ 56) {L : Nat} (hL : L = len8 n + B) :
    (0 ≤ e % 256 ∧ (e % 256).toNat < tb.size) ∧ In64 ((sbyte tb (e % 256).toNat).toNat : Int) ∧ In64 (b + ((sbyte tb (e % 256).toNat).toNat : Int)) ∧ b + ((sbyte tb (e % 256).toNat).toNat : Int) = L := by
  subst he; subst hb
  have h1 : ((n : Int) % 256).toNat = n := by omega
  have h2 := len8_le n
  rw [h1, ht n hn, hs]
  unfold In64
  omega
theorem ev_len64 (x : Nat) (h : x < 18446744073709551616) : Ev Try.prog 49 [U64 x] (.sc (.int .i64 (lenC64 x))) := by
  have ht := tab8
  have hs : ByteArray.size (⟨#[0, 1, 2, 2, 3, 3, 3, 3, 4, 4, 4, 4, 4, 4, 4, 4, 5, 5, 5, 5, 5, 5, 5, 5, 5, 5, 5, 5, 5, 5, 5, 5, 6, 6, 6, 6, 6, 6, 6, 6, 6, 6, 6, 6, 6, 6, 6, 6, 6, 6, 6, 6, 6, 6, 6, 6, 6, 6, 6, 6, 6, 6, 6, 6, 7, 7, 7, 7, 7, 7, 7, 7, 7, 7, 7, 7, 7, 7, 7, 7, 7, 7, 7, 7, 7, 7, 7, 7, 7, 7, 7, 7, 7, 7, 7, 7, 7, 7, 7, 7, 7, 7, 7, 7, 7, 7, 7, 7, 7, 7, 7, 7, 7, 7, 7, 7, 7, 7, 7, 7, 7, 7, 7, 7, 7, 7, 7, 7, 8, 8, 8, 8, 8, 8, 8, 8, 8, 8, 8, 8, 8, 8, 8, 8, 8, 8, 8, 8, 8, 8, 8, 8, 8, 8, 8, 8, 8, 8, 8, 8, 8, 8, 8, 8, 8, 8, 8, 8, 8, 8, 8, 8, 8, 8, 8, 8, 8, 8, 8, 8, 8, 8, 8, 8, 8, 8, 8, 8, 8, 8, 8, 8, 8, 8, 8, 8, 8, 8, 8, 8, 8, 8, 8, 8, 8, 8, 8, 8, 8, 8, 8, 8, 8, 8, 8, 8, 8, 8, 8, 8, 8, 8, 8, 8, 8, 8, 8, 8, 8, 8, 8, 8, 8, 8, 8, 8, 8, 8, 8, 8, 8, 8, 8, 8, 8, 8, 8, 8, 8, 8, 8, 8, 8, 8, 8, 8]⟩ : ByteArray) = 256 := by decide +kernel
  refine ev_fn Try.func49 comp49 (show 1 ≤ Try.f49.ntmps by decide) ?_; unfold cf49 rf49; simp only [↓EVP0, EVQ0, EVQ1, EVQ2, EVQ3, EVQ4, EVA, EVK, EVFR, ↓reduceIte, Nat.reduceEqDiff, Nat.reduceAdd, Nat.reduceSub, Nat.reduceMul, Nat.reduceLT, Nat.reduceLeDiff, reduceCtorEq, Int.reduceToNat, Int.reduceLT, Int.reduceLE, Int.reduceAdd, Int.reduceSub, Int.reduceMul, Int.reduceNeg, Int.reduceEq, Nat.reduceMod, forall_eq_or_imp, forall_eq, forall_const, cond_true, cond_false, decide_true, decide_false, true_imp_iff, implies_true, Int.cast_ofNat_Int, forall_eq']
  generalize (⟨#[0, 1, 2, 2, 3, 3, 3, 3, 4, 4, 4, 4, 4, 4, 4, 4, 5, 5, 5, 5, 5, 5, 5, 5, 5, 5, 5, 5, 5, 5, 5, 5, 6, 6, 6, 6, 6, 6, 6, 6, 6, 6, 6, 6, 6, 6, 6, 6, 6, 6, 6, 6, 6, 6, 6, 6, 6, 6, 6, 6, 6, 6, 6, 6, 7, 7, 7, 7, 7, 7, 7, 7, 7, 7, 7, 7, 7, 7, 7, 7, 7, 7, 7, 7, 7, 7, 7, 7, 7, 7, 7, 7, 7, 7, 7, 7, 7, 7, 7, 7, 7, 7, 7, 7, 7, 7, 7, 7, 7, 7, 7, 7, 7, 7, 7, 7, 7, 7, 7, 7, 7, 7, 7, 7, 7, 7, 7, 7, 8, 8, 8, 8, 8, 8, 8, 8, 8, 8, 8, 8, 8, 8, 8, 8, 8, 8, 8, 8, 8, 8, 8, 8, 8, 8, 8, 8, 8, 8, 8, 8, 8, 8, 8, 8, 8, 8, 8, 8, 8, 8, 8, 8, 8, 8, 8, 8, 8, 8, 8, 8, 8, 8, 8, 8, 8, 8, 8, 8, 8, 8, 8, 8, 8, 8, 8, 8, 8, 8, 8, 8, 8, 8, 8, 8, 8, 8, 8, 8, 8, 8, 8, 8, 8, 8, 8, 8, 8, 8, 8, 8, 8, 8, 8, 8, 8, 8, 8, 8, 8, 8, 8, 8, 8, 8, 8, 8, 8, 8, 8, 8, 8, 8, 8, 8, 8, 8, 8, 8, 8, 8, 8, 8, 8, 8, 8, 8]⟩ : ByteArray) = tb at *
  simp only [fdiv_16, fdiv_8, show ∀ x : Int, IntKind.u8.wrap x = x % 256 from fun x => IntKind.wrap_u8 x]
  have i64 : ∀ n : Int, 0 ≤ n → n ≤ 56 → In64 n := fun n a b => by unfold In64; omega
  unfold lenC64 lenB lenA
  refine ⟨fun a => ⟨fun b => ⟨i64 _ (by decide) (by decide), fun c => ⟨i64 _ (by decide) (by decide), ?_⟩, fun c => ?_⟩, fun b => ⟨fun c => ⟨i64 _ (by decide) (by decide), ?_⟩, fun c => ?_⟩⟩, fun a => ⟨fun b => ⟨i64 _ (by decide) (by decide), fun c => ⟨i64 _ (by decide) (by decide), ?_⟩, fun c => ?_⟩, fun b => ⟨fun c => ⟨i64 _ (by decide) (by decide), ?_⟩, fun c => ?_⟩⟩⟩
  all_goals simp only [decide_eq_true_eq, decide_eq_false_iff_not] at a b c
  · have a' : 4294967296 ≤ x := by omega
    have b' : 65536 ≤ x / 4294967296 := by omega
    have c' : 256 ≤ x / 4294967296 / 65536 := by omega
    exact leaf8 ht hs (x / 4294967296 / 65536 / 256) (by omega) (by omega) 56 rfl (by decide) (by simp [a', b', c'])
  · have a' : 4294967296 ≤ x := by omega
    have b' : 65536 ≤ x / 4294967296 := by omega
    have c' : ¬ 256 ≤ x / 4294967296 / 65536 := by omega
    exact leaf8 ht hs (x / 4294967296 / 65536) (by omega) (by omega) 48 rfl (by decide) (by simp [a', b', c'])
  · have a' : 4294967296 ≤ x := by omega
    have b' : ¬ 65536 ≤ x / 4294967296 := by omega
    have c' : 256 ≤ x / 4294967296 := by omega
    exact leaf8 ht hs (x / 4294967296 / 256) (by omega) (by omega) 40 rfl (by decide) (by simp [a', b', c'])
  · have a' : 4294967296 ≤ x := by omega
    have b' : ¬ 65536 ≤ x / 4294967296 := by omega
    have c' : ¬ 256 ≤ x / 4294967296 := by omega
    exact leaf8 ht hs (x / 4294967296) (by omega) (by omega) 32 rfl (by decide) (by simp [a', b', c'])
  · have a' : ¬ 4294967296 ≤ x := by omega
    have b' : 65536 ≤ x := by omega
    have c' : 256 ≤ x / 65536 := by omega
    exact leaf8 ht hs (x / 65536 / 256) (by omega) (by omega) 24 rfl (by decide) (by simp [a', b', c'])
  · have a' : ¬ 4294967296 ≤ x := by omega
    have b' : 65536 ≤ x := by omega
    have c' : ¬ 256 ≤ x / 65536 := by omega
    exact leaf8 ht hs (x / 65536) (by omega) (by omega) 16 rfl (by decide) (by simp [a', b', c'])
  · have a' : ¬ 4294967296 ≤ x := by omega
    have b' : ¬ 65536 ≤ x := by omega
    have c' : 256 ≤ x := by omega
    exact leaf8 ht hs (x / 256) (by omega) (by omega) 8 rfl (by decide) (by simp [a', b', c'])
  · have a' : ¬ 4294967296 ≤ x := by omega
    have b' : ¬ 65536 ≤ x := by omega
    have c' : ¬ 256 ≤ x := by omega
    exact leaf8 ht hs x (by omega) (by omega) 0 rfl (by decide) (by simp [a', b', c'])
theorem ev_lz64 (x : Nat) (h : x < 18446744073709551616) : Ev Try.prog 48 [U64 x] (.sc (.int .i64 (64 - (lenC64 x : Int)))) := by
  have h1 := ev_len64 x h
  have hl := lenC64_ok x h
  have hle : lenC64 x ≤ 64 := by
    rcases hl with ⟨_, h2⟩ | ⟨h2, h3, _⟩
    · omega
    · rcases Nat.lt_or_ge 64 (lenC64 x) with hlt | hge
      · have : 2 ^ 64 ≤ 2 ^ (lenC64 x - 1) := Nat.pow_le_pow_right (by decide) (by omega)
        have e : (2 : Nat) ^ 64 = 18446744073709551616 := by decide
        omega
      · exact hge
  refine ev_fn Try.func48 comp48 (show 1 ≤ Try.f48.ntmps by decide) ?_; unfold cf48 rf48; simp only [↓EVP0, EVQ0, EVQ1, EVQ2, EVQ3, EVQ4, EVA, EVK, EVFR, ↓reduceIte, Nat.reduceEqDiff, Nat.reduceAdd, Nat.reduceSub, Nat.reduceMul, Nat.reduceLT, Nat.reduceLeDiff, reduceCtorEq, Int.reduceToNat, Int.reduceLT, Int.reduceLE, Int.reduceAdd, Int.reduceSub, Int.reduceMul, Int.reduceNeg, Int.reduceEq, Nat.reduceMod, forall_eq_or_imp, forall_eq, forall_const, cond_true, cond_false, decide_true, decide_false, true_imp_iff, implies_true, Int.cast_ofNat_Int, forall_eq']
  refine callK_ro (h1) ?_ ?_
  · simp only [↓EVP0, EVQ0, EVQ1, EVQ2, EVQ3, EVQ4, EVA, EVK, EVFR, ↓reduceIte, Nat.reduceEqDiff, Nat.reduceAdd, Nat.reduceSub, Nat.reduceMul, Nat.reduceLT, Nat.reduceLeDiff, reduceCtorEq, Int.reduceToNat, Int.reduceLT, Int.reduceLE, Int.reduceAdd, Int.reduceSub, Int.reduceMul, Int.reduceNeg, Int.reduceEq, Nat.reduceMod, forall_eq_or_imp, forall_eq, forall_const, cond_true, cond_false, decide_true, decide_false, true_imp_iff, implies_true, Int.cast_ofNat_Int, forall_eq']
  simp only [↓EVP0, EVQ0, EVQ1, EVQ2, EVQ3, EVQ4, EVA, EVK, EVFR, ↓reduceIte, Nat.reduceEqDiff, Nat.reduceAdd, Nat.reduceSub, Nat.reduceMul, Nat.reduceLT, Nat.reduceLeDiff, reduceCtorEq, Int.reduceToNat, Int.reduceLT, Int.reduceLE, Int.reduceAdd, Int.reduceSub, Int.reduceMul, Int.reduceNeg, Int.reduceEq, Nat.reduceMod, forall_eq_or_imp, forall_eq, forall_const, cond_true, cond_false, decide_true, decide_false, true_imp_iff, implies_true, Int.cast_ofNat_Int, forall_eq']
  unfold In64; omega
end Go.Proofs.Ytfhifkcbdpgomaa
