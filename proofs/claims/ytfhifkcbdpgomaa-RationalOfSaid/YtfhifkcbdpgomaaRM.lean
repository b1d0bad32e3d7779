/- Plain laws of numbers in lowest terms: the field laws, what undoes, the order. Conditions: none. -/
import Derived.Test.YtfhifkcbdpgomaaRI
namespace Go.Proofs.Ytfhifkcbdpgomaa
set_option linter.unusedSimpArgs false
set_option linter.unusedVariables false
open Go.RowKit
set_option linter.unusedVariables false

theorem abs_d {S : Rt} (h : 1 ≤ S.d) : ((S.d.natAbs : Nat) : Int) = S.d := by omega
/-- A sum of two fractions that are not in lowest terms. -/
theorem addE_rr {S T : Rt} {X Z : Int} {Y W : Nat} (hS : 1 ≤ S.d) (hT : 1 ≤ T.d) (hY : 0 < Y) (hW : 0 < W) (h : S.n * Y = X * S.d) (k : T.n * W = Z * T.d) : addE S T = low (X * W + Z * Y) (Y * W) := by
  unfold addE
  refine low_congr (Nat.mul_pos (by omega) (by omega)) (Nat.mul_pos hY hW) ?_
  simp only [Int.natCast_mul]
  rw [abs_d hS, abs_d hT]
  generalize (Y : Int) = y at *
  generalize (W : Int) = w at *
  grind
theorem mulE_rr {S T : Rt} {X Z : Int} {Y W : Nat} (hS : 1 ≤ S.d) (hT : 1 ≤ T.d) (hY : 0 < Y) (hW : 0 < W) (h : S.n * Y = X * S.d) (k : T.n * W = Z * T.d) : mulE S T = low (X * Z) (Y * W) := by
  unfold mulE
  refine low_congr (Nat.mul_pos (by omega) (by omega)) (Nat.mul_pos hY hW) ?_
  simp only [Int.natCast_mul]
  rw [abs_d hS, abs_d hT]
  generalize (Y : Int) = y at *
  generalize (W : Int) = w at *
  grind
theorem self_fr (S : Rt) (h : 1 ≤ S.d) : S.n * (S.d.natAbs : Nat) = S.n * S.d := by rw [abs_d h]
theorem low_fr {x : Int} {y : Nat} (hy : 0 < y) (h : (low x y).2 = 0) : Low (low x y).1 ∧ (low x y).1.n * y = x * (low x y).1.d := by
  rcases low_ok (x := x) hy with ⟨_, h2, h3⟩ | h2
  · exact ⟨h2, h3⟩
  · rw [h2] at h; simp at h
theorem pos2 {A B : Rt} (a : Low A) (b : Low B) : 0 < A.d.natAbs * B.d.natAbs := Nat.mul_pos (by have := a.1; omega) (by have := b.1; omega)
theorem pos1 {A : Rt} (a : Low A) : 0 < A.d.natAbs := by have := a.1; omega
theorem addE_fr {A B : Rt} (a : Low A) (b : Low B) (h : (addE A B).2 = 0) : Low (addE A B).1 ∧ (addE A B).1.n * ((A.d.natAbs * B.d.natAbs : Nat) : Int) = (A.n * B.d + B.n * A.d) * (addE A B).1.d := low_fr (pos2 a b) h
theorem mulE_fr {A B : Rt} (a : Low A) (b : Low B) (h : (mulE A B).2 = 0) : Low (mulE A B).1 ∧ (mulE A B).1.n * ((A.d.natAbs * B.d.natAbs : Nat) : Int) = (A.n * B.n) * (mulE A B).1.d := low_fr (pos2 a b) h
theorem addE_comm (A B : Rt) : addE A B = addE B A := by unfold addE; rw [Int.add_comm, Nat.mul_comm]
theorem mulE_comm (A B : Rt) : mulE A B = mulE B A := by unfold mulE; rw [Int.mul_comm, Nat.mul_comm]
theorem addE_assoc {A B C : Rt} (a : Low A) (b : Low B) (c : Low C) (h : (addE A B).2 = 0) (k : (addE B C).2 = 0) : addE (addE A B).1 C = addE A (addE B C).1 := by
  obtain ⟨h1, h2⟩ := addE_fr a b h
  obtain ⟨k1, k2⟩ := addE_fr b c k
  rw [addE_rr h1.1 c.1 (pos2 a b) (pos1 c) h2 (self_fr C c.1), addE_rr a.1 k1.1 (pos1 a) (pos2 b c) (self_fr A a.1) k2]
  rw [Nat.mul_assoc]
  congr 1
  simp only [Int.natCast_mul]
  rw [abs_d a.1, abs_d b.1, abs_d c.1]
  grind
theorem mulE_assoc {A B C : Rt} (a : Low A) (b : Low B) (c : Low C) (h : (mulE A B).2 = 0) (k : (mulE B C).2 = 0) : mulE (mulE A B).1 C = mulE A (mulE B C).1 := by
  obtain ⟨h1, h2⟩ := mulE_fr a b h
  obtain ⟨k1, k2⟩ := mulE_fr b c k
  rw [mulE_rr h1.1 c.1 (pos2 a b) (pos1 c) h2 (self_fr C c.1), mulE_rr a.1 k1.1 (pos1 a) (pos2 b c) (self_fr A a.1) k2]
  rw [Nat.mul_assoc, Int.mul_assoc]
theorem mulE_addE {A B C : Rt} (a : Low A) (b : Low B) (c : Low C) (h : (addE B C).2 = 0) (k : (mulE A B).2 = 0) (l : (mulE A C).2 = 0) : mulE A (addE B C).1 = addE (mulE A B).1 (mulE A C).1 := by
  obtain ⟨h1, h2⟩ := addE_fr b c h
  obtain ⟨k1, k2⟩ := mulE_fr a b k
  obtain ⟨l1, l2⟩ := mulE_fr a c l
  rw [mulE_rr a.1 h1.1 (pos1 a) (pos2 b c) (self_fr A a.1) h2, addE_rr k1.1 l1.1 (pos2 a b) (pos2 a c) k2 l2]
  refine low_congr (Nat.mul_pos (pos1 a) (pos2 b c)) (Nat.mul_pos (pos2 a b) (pos2 a c)) ?_
  simp only [Int.natCast_mul]
  rw [abs_d a.1, abs_d b.1, abs_d c.1]
  grind
theorem negR_low {B : Rt} (b : Low B) : Low (negR B) := by
  unfold negR Low at *
  simp only
  refine ⟨b.1, b.2.1, by omega, by omega, ?_⟩
  have : (0 - B.n).natAbs = B.n.natAbs := by omega
  rw [this]; exact b.2.2.2.2
theorem addE_sub {A B : Rt} (a : Low A) (b : Low B) (h : (addE A B).2 = 0) : addE (addE A B).1 (negR B) = (A, 0) := by
  obtain ⟨h1, h2⟩ := addE_fr a b h
  rw [addE_rr h1.1 (negR_low b).1 (pos2 a b) (pos1 b) h2 (self_fr (negR B) b.1), ← low_self a]
  refine low_congr (Nat.mul_pos (pos2 a b) (pos1 b)) (pos1 a) ?_
  simp only [Int.natCast_mul, negR]
  rw [abs_d a.1, abs_d b.1]
  grind
/-- The inverse of a number other than 0. -/
def invR (b : Rt) : Rt := if b.n < 0 then ⟨0 - b.d, 0 - b.n⟩ else ⟨b.d, b.n⟩
theorem invR_low {B : Rt} (b : Low B) (h : B.n ≠ 0) : Low (invR B) ∧ (invR B).n * B.n = B.d * (invR B).d := by
  obtain ⟨b1, b2, b3, b4, b5⟩ := b
  unfold invR
  have b6 : Nat.Coprime B.d.natAbs B.n.natAbs := b5.symm
  split
  · refine ⟨⟨by simp only; omega, by simp only; omega, by simp only; omega, by simp only; omega, ?_⟩, by simp only; grind⟩
    simp only
    rw [show (0 - B.d).natAbs = B.d.natAbs by omega, show (0 - B.n).natAbs = B.n.natAbs by omega]; exact b6
  · exact ⟨⟨by simp only; omega, by simp only; omega, by simp only; omega, by simp only; omega, b6⟩, rfl⟩
theorem mulE_div {A B : Rt} (a : Low A) (b : Low B) (h0 : B.n ≠ 0) (h : (mulE A B).2 = 0) : mulE (mulE A B).1 (invR B) = (A, 0) := by
  obtain ⟨h1, h2⟩ := mulE_fr a b h
  obtain ⟨i1, i2⟩ := invR_low b h0
  rw [mulE_rr h1.1 i1.1 (pos2 a b) (pos1 i1) h2 (self_fr (invR B) i1.1), ← low_self a]
  refine low_congr (Nat.mul_pos (pos2 a b) (pos1 i1)) (pos1 a) ?_
  simp only [Int.natCast_mul]
  rw [abs_d a.1, abs_d b.1, abs_d i1.1]
  generalize (invR B).n = x at *
  generalize (invR B).d = y at *
  grind

theorem cmpI_self (x : Int) : cmpI x x = 0 := by unfold cmpI; rw [if_neg (by omega), if_pos rfl]
theorem cmpI_sub (x y : Int) : cmpI x y = cmpI (x - y) 0 := by
  unfold cmpI
  rcases Int.lt_trichotomy x y with h | h | h
  · rw [if_pos (by omega), if_pos (by omega)]
  · rw [if_neg (by omega), if_pos (by omega), if_neg (by omega), if_pos (by omega)]
  · rw [if_neg (by omega), if_neg (by omega), if_neg (by omega), if_neg (by omega)]
theorem cmpI_pos {k z : Int} (hk : 0 < k) : cmpI (k * z) 0 = cmpI z 0 := by
  unfold cmpI
  rcases Int.lt_trichotomy z 0 with h | h | h
  · have := Int.mul_neg_of_pos_of_neg hk h
    rw [if_pos this, if_pos h]
  · subst h; simp
  · have := Int.mul_pos hk h
    rw [if_neg (by omega), if_neg (by omega), if_neg (by omega), if_neg (by omega)]
theorem cmpI_neg (x y : Int) : cmpI x y = 0 - cmpI y x := by
  unfold cmpI
  rcases Int.lt_trichotomy x y with h | h | h
  · rw [if_pos (by omega), if_neg (by omega), if_neg (by omega)]; rfl
  · rw [if_neg (by omega), if_pos (by omega), if_neg (by omega), if_pos (by omega)]; rfl
  · rw [if_neg (by omega), if_neg (by omega), if_pos (by omega)]; rfl
theorem cmpI_le {x y : Int} : cmpI x y ≤ 0 ↔ x ≤ y := by
  unfold cmpI
  split
  · constructor <;> intros <;> omega
  · split <;> constructor <;> intros <;> omega
theorem cmpI_lt {x y : Int} : cmpI x y < 0 ↔ x < y := by
  unfold cmpI
  split
  · constructor <;> intros <;> omega
  · split <;> constructor <;> intros <;> omega
theorem cmpI_m {x y : Int} : cmpI x y = -1 ↔ x < y := by
  unfold cmpI
  split
  · constructor <;> intros <;> omega
  · split <;> constructor <;> intros <;> omega
theorem cmpI_bnd (x y : Int) : -1 ≤ cmpI x y ∧ cmpI x y ≤ 1 := by
  unfold cmpI
  split
  · omega
  · split <;> omega
theorem cmpE_trans {A B C : Rt} (a : Low A) (b : Low B) (c : Low C) (h : cmpE A B ≤ 0) (k : cmpE B C ≤ 0) : cmpE A C ≤ 0 := by
  unfold cmpE at *
  rw [cmpI_le] at *
  have h1 := Int.mul_le_mul_of_nonneg_right h (show 0 ≤ C.d by have := c.1; omega)
  have h2 := Int.mul_le_mul_of_nonneg_right k (show 0 ≤ A.d by have := a.1; omega)
  refine Int.le_of_mul_le_mul_right (a := B.d) ?_ (by have := b.1; omega)
  have e1 : A.n * B.d * C.d = A.n * C.d * B.d := by grind
  have e2 : B.n * A.d * C.d = B.n * C.d * A.d := by grind
  have e3 : C.n * B.d * A.d = C.n * A.d * B.d := by grind
  omega
theorem cmpE_trans2 {A B C : Rt} (a : Low A) (b : Low B) (c : Low C) (h : cmpE A B < 0) (k : cmpE B C ≤ 0) : cmpE A C = -1 := by
  unfold cmpE at *
  rw [cmpI_le] at k
  rw [cmpI_lt] at h
  rw [cmpI_m]
  have h1 := Int.mul_lt_mul_of_pos_right h (show 0 < C.d by have := c.1; omega)
  have h2 := Int.mul_le_mul_of_nonneg_right k (show 0 ≤ A.d by have := a.1; omega)
  refine Int.lt_of_mul_lt_mul_right (a := B.d) ?_ (by have := b.1; omega)
  have e1 : A.n * B.d * C.d = A.n * C.d * B.d := by grind
  have e2 : B.n * A.d * C.d = B.n * C.d * A.d := by grind
  have e3 : C.n * B.d * A.d = C.n * A.d * B.d := by grind
  omega
theorem cmpE_add {A B C : Rt} (a : Low A) (b : Low B) (c : Low C) (h : (addE A C).2 = 0) (k : (addE B C).2 = 0) : cmpE (addE A C).1 (addE B C).1 = cmpE A B := by
  obtain ⟨h1, h2⟩ := addE_fr a c h
  obtain ⟨k1, k2⟩ := addE_fr b c k
  unfold cmpE
  generalize (addE A C).1 = X at *
  generalize (addE B C).1 = Y at *
  simp only [Int.natCast_mul] at h2 k2
  rw [abs_d a.1, abs_d c.1] at h2
  rw [abs_d b.1, abs_d c.1] at k2
  have p : ∀ {x y : Int}, 1 ≤ x → 1 ≤ y → 0 < x * y := fun hx hy => Int.mul_pos (by omega) (by omega)
  have q : ∀ {x y : Int}, 1 ≤ x → 1 ≤ y → 1 ≤ x * y := fun hx hy => p hx hy
  rw [cmpI_sub, cmpI_sub (A.n * B.d), ← cmpI_pos (k := A.d * C.d * (B.d * C.d)) (z := X.n * Y.d - Y.n * X.d) (p (q a.1 c.1) (q b.1 c.1)), ← cmpI_pos (k := X.d * Y.d * (C.d * C.d)) (z := A.n * B.d - B.n * A.d) (p (q h1.1 k1.1) (q c.1 c.1))]
  congr 1
  have hc0 := c.1
  clear p q a b c h1 k1 h k
  grind
theorem cmpE_self (A : Rt) : cmpE A A = 0 := cmpI_self _
end Go.Proofs.Ytfhifkcbdpgomaa
