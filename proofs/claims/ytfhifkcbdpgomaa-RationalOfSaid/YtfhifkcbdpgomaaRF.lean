/- Rational numbers in lowest terms: sums and products with small divisors. Conditions: none. -/
import Derived.Test.YtfhifkcbdpgomaaRE
namespace Go.Proofs.Ytfhifkcbdpgomaa
set_option linter.unusedSimpArgs false
set_option linter.unusedVariables false
open Go.RowKit
set_option linter.unusedVariables false

def sg (s : Bool) (m : Nat) : Int := bif s then -(m : Int) else m
def res (s : Bool) (m k : Nat) : Rt × Int := if m = 0 then (⟨0, 1⟩, 0) else if m ≤ 1152921504606846976 ∧ k ≤ 1152921504606846976 then (⟨sg s m, (k : Int)⟩, 0) else (⟨0, 0⟩, 10)
/-- The number x / y in lowest terms, or the error. -/
def low (x : Int) (y : Nat) : Rt × Int := res (decide (x < 0)) (x.natAbs / Nat.gcd x.natAbs y) (y / Nat.gcd x.natAbs y)

theorem sg_natAbs (s : Bool) (m : Nat) : (sg s m).natAbs = m := by cases s <;> simp [sg]
theorem sg_of (x : Int) : sg (decide (x < 0)) x.natAbs = x := by
  by_cases h : x < 0 <;> simp [sg, h] <;> omega
theorem lowest_uniq {X y m k : Nat} (hc : Nat.Coprime m k) (hk : 0 < k) (hy : 0 < y) (h : X * k = m * y) : X / Nat.gcd X y = m ∧ y / Nat.gcd X y = k := by
  have h1 : k ∣ m * y := ⟨X, by rw [← h, Nat.mul_comm]⟩
  obtain ⟨c, hcy⟩ := hc.symm.dvd_of_dvd_mul_left h1
  subst hcy
  have h2 : X = m * c := by
    have : k * X = k * (m * c) := by rw [Nat.mul_comm, h, ← Nat.mul_assoc, Nat.mul_comm m k, Nat.mul_assoc]
    exact Nat.eq_of_mul_eq_mul_left hk this
  subst h2
  have h3 : Nat.gcd (m * c) (k * c) = c := by rw [Nat.gcd_mul_right, hc, Nat.one_mul]
  have hcp : 0 < c := Nat.pos_of_mul_pos_left hy
  rw [h3]
  exact ⟨Nat.mul_div_cancel _ hcp, Nat.mul_div_cancel _ hcp⟩
theorem natAbs_mul_nat (x : Int) (k : Nat) : (x * (k : Int)).natAbs = x.natAbs * k := by rw [Int.natAbs_mul]; rfl
theorem neg_iff {x : Int} {s : Bool} {m y k : Nat} (hm : 0 < m) (hk : 0 < k) (hy : 0 < y) (h : x * k = sg s m * y) : decide (x < 0) = s := by
  have hk' : (0 : Int) < k := by omega
  have hmy : (0 : Int) < (m : Int) * y := by rw [← Int.natCast_mul]; exact Int.natCast_pos.2 (Nat.mul_pos hm hy)
  cases s
  · simp only [sg, cond_false] at h
    rw [decide_eq_false_iff_not]
    intro hx
    have := Int.mul_neg_of_neg_of_pos hx hk'
    omega
  · simp only [sg, cond_true, Int.neg_mul] at h
    rw [decide_eq_true_iff]
    rcases Int.lt_or_le x 0 with hx | hx
    · exact hx
    · have := Int.mul_nonneg hx (Int.le_of_lt hk')
      omega
theorem low_eq {x : Int} {y m k : Nat} {s : Bool} (hc : Nat.Coprime m k) (hk : 0 < k) (hy : 0 < y) (h : x * k = sg s m * y) : low x y = res s m k := by
  have h1 : x.natAbs * k = m * y := by
    have := congrArg Int.natAbs h
    rw [natAbs_mul_nat, natAbs_mul_nat, sg_natAbs] at this
    exact this
  obtain ⟨e1, e2⟩ := lowest_uniq hc hk hy h1
  unfold low
  rw [e1, e2]
  rcases Nat.eq_zero_or_pos m with rfl | hm
  · rfl
  · rw [neg_iff hm hk hy h]
theorem low_terms (x : Int) (y : Nat) (hy : 0 < y) : Nat.Coprime (x.natAbs / Nat.gcd x.natAbs y) (y / Nat.gcd x.natAbs y) ∧ 0 < y / Nat.gcd x.natAbs y ∧ x * ((y / Nat.gcd x.natAbs y : Nat) : Int) = sg (decide (x < 0)) (x.natAbs / Nat.gcd x.natAbs y) * (y : Int) := by
  have hg : 0 < Nat.gcd x.natAbs y := Nat.gcd_pos_of_pos_right _ hy
  refine ⟨Nat.coprime_div_gcd_div_gcd hg, Nat.div_pos (Nat.le_of_dvd hy (Nat.gcd_dvd_right _ _)) hg, ?_⟩
  have h1 : x.natAbs = Nat.gcd x.natAbs y * (x.natAbs / Nat.gcd x.natAbs y) := (Nat.mul_div_cancel' (Nat.gcd_dvd_left _ _)).symm
  have h2 : y = Nat.gcd x.natAbs y * (y / Nat.gcd x.natAbs y) := (Nat.mul_div_cancel' (Nat.gcd_dvd_right _ _)).symm
  have h3 := sg_of x
  generalize x.natAbs / Nat.gcd x.natAbs y = a at *
  generalize y / Nat.gcd x.natAbs y = b at *
  generalize Nat.gcd x.natAbs y = g at *
  have h1' : (x.natAbs : Int) = g * a := by rw [h1]; rfl
  have h2' : (y : Int) = g * b := by rw [h2]; rfl
  generalize decide (x < 0) = s at *
  clear h1 h2
  unfold sg at *
  cases s <;> simp only [cond_true, cond_false] at * <;> rw [h2', ← h3, h1'] <;> grind
theorem low_congr {x x' : Int} {y y' : Nat} (hy : 0 < y) (hy' : 0 < y') (h : x * y' = x' * y) : low x y = low x' y' := by
  obtain ⟨h1, h2, h3⟩ := low_terms x' y' hy'
  show _ = res _ _ _
  refine low_eq h1 h2 hy ?_
  generalize ((y' / Nat.gcd x'.natAbs y' : Nat) : Int) = b at *
  generalize sg (decide (x' < 0)) (x'.natAbs / Nat.gcd x'.natAbs y') = a at *
  have hy2 : (y' : Int) ≠ 0 := by omega
  apply Int.eq_of_mul_eq_mul_right hy2
  grind
def nrmR (r : Rt) : Rt := if r.d = 0 then ⟨r.n, 1⟩ else r
/-- In lowest terms with a denominator. -/
def Low (r : Rt) : Prop := 1 ≤ r.d ∧ r.d ≤ 1152921504606846976 ∧ -1152921504606846976 ≤ r.n ∧ r.n ≤ 1152921504606846976 ∧ Nat.Coprime r.n.natAbs r.d.natAbs
theorem vld_low {r : Rt} (h : vldR r = true) : Low (nrmR r) := by
  unfold vldR mag at h
  simp only [Bool.or_eq_true, Bool.and_eq_true, decide_eq_true_eq] at h
  unfold nrmR Low
  rcases h with ⟨h1, h2⟩ | ⟨h1, h2, h3, h4, h5⟩
  · rw [if_pos h2]
    simp [h1]
  · rw [if_neg (by omega)]
    exact ⟨h1, h2, h3, h4, h5⟩
theorem low_vld {r : Rt} (h : Low r) : vldR r = true ∧ nrmR r = r := by
  obtain ⟨h1, h2, h3, h4, h5⟩ := h
  unfold vldR mag nrmR
  simp only [Bool.or_eq_true, Bool.and_eq_true, decide_eq_true_eq]
  exact ⟨.inr ⟨h1, h2, h3, h4, h5⟩, by rw [if_neg (by omega)]⟩
theorem low_ok {x : Int} {y : Nat} (hy : 0 < y) : ((low x y).2 = 0 ∧ Low (low x y).1 ∧ (low x y).1.n * y = x * (low x y).1.d) ∨ low x y = (⟨0, 0⟩, 10) := by
  obtain ⟨h1, h2, h3⟩ := low_terms x y hy
  unfold low res
  generalize x.natAbs / Nat.gcd x.natAbs y = a at *
  generalize y / Nat.gcd x.natAbs y = b at *
  split
  · rename_i h
    subst h
    have hx : x = 0 := by
      have h4 : sg (decide (x < 0)) 0 = 0 := by cases decide (x < 0) <;> rfl
      rw [h4, Int.zero_mul] at h3
      rcases Int.mul_eq_zero.1 h3 with h | h
      · exact h
      · omega
    subst hx
    exact .inl ⟨rfl, by unfold Low; simp, by simp⟩
  · split
    · rename_i h
      refine .inl ⟨rfl, ?_, ?_⟩
      · have e := sg_natAbs (decide (x < 0)) a
        unfold Low
        simp only
        rw [e, Int.natAbs_natCast]
        refine ⟨by omega, by omega, ?_, ?_, h1⟩ <;> omega
      · simp only; rw [h3]
    · exact .inr rfl
theorem low_self {r : Rt} (h : Low r) : low r.n r.d.natAbs = (r, 0) := by
  obtain ⟨h1, h2, h3, h4, h5⟩ := h
  obtain ⟨n, d⟩ := r
  simp only at *
  unfold low
  rw [h5, Nat.div_one, Nat.div_one]
  unfold res
  split
  · rename_i h
    have hn : n = 0 := by omega
    subst hn
    rw [Int.natAbs_zero, Nat.coprime_zero_left] at h5
    have : d = 1 := by omega
    subst this; rfl
  · rw [if_pos (by omega), sg_of]
    have : ((d.natAbs : Nat) : Int) = d := by omega
    rw [this]
/-- Sum and product, on numbers that have a denominator. -/
def addE (a b : Rt) : Rt × Int := low (a.n * b.d + b.n * a.d) (a.d.natAbs * b.d.natAbs)
def mulE (a b : Rt) : Rt × Int := low (a.n * b.n) (a.d.natAbs * b.d.natAbs)

theorem dvd_natAbs_add {d : Nat} {u v : Int} (h : d ∣ (u + v).natAbs) (h2 : d ∣ v.natAbs) : d ∣ u.natAbs := by
  rw [← Int.ofNat_dvd_left] at h h2 ⊢
  have := Int.dvd_sub h h2
  rwa [Int.add_sub_cancel] at this
theorem cop_of_sum {u v : Int} {x : Nat} (hu : Nat.Coprime u.natAbs x) (hv : x ∣ v.natAbs) : Nat.Coprime (u + v).natAbs x := by
  have h1 : Nat.gcd (u + v).natAbs x ∣ u.natAbs := dvd_natAbs_add (Nat.gcd_dvd_left _ _) (Nat.dvd_trans (Nat.gcd_dvd_right _ _) hv)
  exact Nat.eq_one_of_dvd_one (hu ▸ Nat.dvd_gcd h1 (Nat.gcd_dvd_right _ _))
/-- The addition of two numbers in lowest terms, with small divisors. -/
theorem knuth {an bn : Int} {ad bd : Nat} (ha : 0 < ad) (hb : 0 < bd) (ca : Nat.Coprime an.natAbs ad) (cb : Nat.Coprime bn.natAbs bd) (g x y : Nat) (hg : g = Nat.gcd ad bd) (hx : x = ad / g) (hy : y = bd / g) (S : Int) (hS : S = an * y + bn * x) (h : Nat) (hh : h = Nat.gcd g S.natAbs) :
    0 < g ∧ 0 < h ∧ low (an * bd + bn * ad) (ad * bd) = res (decide (S < 0)) (S.natAbs / h) (x * (bd / h)) := by
  have hg0 : 0 < g := by rw [hg]; exact Nat.gcd_pos_of_pos_left _ ha
  have hh0 : 0 < h := by rw [hh]; exact Nat.gcd_pos_of_pos_left _ hg0
  have e1 : ad = g * x := by rw [hx]; exact (Nat.mul_div_cancel' (hg ▸ Nat.gcd_dvd_left _ _)).symm
  have e2 : bd = g * y := by rw [hy]; exact (Nat.mul_div_cancel' (hg ▸ Nat.gcd_dvd_right _ _)).symm
  have cxy : Nat.Coprime x y := by rw [hx, hy, hg]; exact Nat.coprime_div_gcd_div_gcd (hg ▸ hg0)
  have hx0 : 0 < x := by rcases Nat.eq_zero_or_pos x with h | h; · rw [h] at e1; omega
                         · exact h
  have hy0 : 0 < y := by rcases Nat.eq_zero_or_pos y with h | h; · rw [h] at e2; omega
                         · exact h
  have cx : Nat.Coprime S.natAbs x := by
    rw [hS]
    refine cop_of_sum ?_ ?_
    · rw [natAbs_mul_nat]
      exact Nat.Coprime.mul_left (Nat.Coprime.coprime_dvd_right ⟨g, by rw [e1, Nat.mul_comm]⟩ ca) cxy.symm
    · rw [natAbs_mul_nat]; exact Nat.dvd_mul_left _ _
  have cy : Nat.Coprime S.natAbs y := by
    rw [hS, Int.add_comm]
    refine cop_of_sum ?_ ?_
    · rw [natAbs_mul_nat]
      exact Nat.Coprime.mul_left (Nat.Coprime.coprime_dvd_right ⟨g, by rw [e2, Nat.mul_comm]⟩ cb) cxy
    · rw [natAbs_mul_nat]; exact Nat.dvd_mul_left _ _
  have h1 : h ∣ g := hh ▸ Nat.gcd_dvd_left _ _
  have h2 : h ∣ S.natAbs := hh ▸ Nat.gcd_dvd_right _ _
  obtain ⟨gc, hgc⟩ := h1
  obtain ⟨sc, hsc⟩ := h2
  have c3 : Nat.Coprime sc gc := by
    have h3 := Nat.coprime_div_gcd_div_gcd (m := g) (n := S.natAbs) (hh ▸ hh0)
    rw [← hh, hsc, hgc, Nat.mul_div_cancel_left _ hh0, Nat.mul_div_cancel_left _ hh0] at h3
    exact h3.symm
  have e3 : S.natAbs / h = sc := by rw [hsc, Nat.mul_div_cancel_left _ hh0]
  have e4 : bd / h = gc * y := by rw [e2, hgc, Nat.mul_assoc, Nat.mul_div_cancel_left _ hh0]
  refine ⟨hg0, hh0, ?_⟩
  rw [e3, e4]
  have hscd : sc ∣ S.natAbs := ⟨h, by rw [hsc, Nat.mul_comm]⟩
  have hgc0 : 0 < gc := by rcases Nat.eq_zero_or_pos gc with h | h; · rw [h] at hgc; omega
                           · exact h
  refine low_eq ?_ (Nat.mul_pos hx0 (Nat.mul_pos hgc0 hy0)) (Nat.mul_pos ha hb) ?_
  · exact Nat.Coprime.mul_right (Nat.Coprime.coprime_dvd_left hscd cx) (Nat.Coprime.mul_right c3 (Nat.Coprime.coprime_dvd_left hscd cy))
  · have h5 := sg_of S
    rw [hsc] at h5
    have h6 : S = h * sg (decide (S < 0)) sc := by
      have : ∀ b : Bool, sg b (h * sc) = h * sg b sc := by intro b; cases b <;> simp [sg, Int.mul_neg]
      rw [this] at h5
      exact h5.symm
    generalize sg (decide (S < 0)) sc = q at *
    clear h5 e3 e4 hscd
    subst e1 e2
    simp only [Int.natCast_mul]
    have h7 : (g : Int) = h * gc := by rw [hgc]; rfl
    rw [h6] at hS
    clear hsc cx cy h6
    grind
theorem mulk {an bn : Int} {ad bd : Nat} (ha : 0 < ad) (hb : 0 < bd) (ca : Nat.Coprime an.natAbs ad) (cb : Nat.Coprime bn.natAbs bd) (g h : Nat) (hg : g = Nat.gcd an.natAbs bd) (hh : h = Nat.gcd bn.natAbs ad) :
    0 < g ∧ 0 < h ∧ low (an * bn) (ad * bd) = res (decide (an < 0) != decide (bn < 0)) (an.natAbs / g * (bn.natAbs / h)) (ad / h * (bd / g)) := by
  have hg0 : 0 < g := by rw [hg]; exact Nat.gcd_pos_of_pos_right _ hb
  have hh0 : 0 < h := by rw [hh]; exact Nat.gcd_pos_of_pos_right _ ha
  refine ⟨hg0, hh0, ?_⟩
  have c1 := Nat.coprime_div_gcd_div_gcd (m := an.natAbs) (n := bd) (hg ▸ hg0)
  have c2 := Nat.coprime_div_gcd_div_gcd (m := bn.natAbs) (n := ad) (hh ▸ hh0)
  rw [← hg] at c1
  rw [← hh] at c2
  have d1 : an.natAbs = g * (an.natAbs / g) := (Nat.mul_div_cancel' (hg ▸ Nat.gcd_dvd_left _ _)).symm
  have d2 : bd = g * (bd / g) := (Nat.mul_div_cancel' (hg ▸ Nat.gcd_dvd_right _ _)).symm
  have d3 : bn.natAbs = h * (bn.natAbs / h) := (Nat.mul_div_cancel' (hh ▸ Nat.gcd_dvd_left _ _)).symm
  have d4 : ad = h * (ad / h) := (Nat.mul_div_cancel' (hh ▸ Nat.gcd_dvd_right _ _)).symm
  have f1 := sg_of an
  have f2 := sg_of bn
  generalize an.natAbs / g = a1 at *
  generalize bn.natAbs / h = b1 at *
  generalize bd / g = b2 at *
  generalize ad / h = a2 at *
  rw [d1] at f1
  rw [d3] at f2
  have a2p : 0 < a2 := by rcases Nat.eq_zero_or_pos a2 with q | q; · rw [q] at d4; omega
                          · exact q
  have b2p : 0 < b2 := by rcases Nat.eq_zero_or_pos b2 with q | q; · rw [q] at d2; omega
                          · exact q
  refine low_eq ?_ (Nat.mul_pos a2p b2p) (Nat.mul_pos ha hb) ?_
  · have k1 : Nat.Coprime a1 a2 := (ca.coprime_dvd_left ⟨g, by rw [d1, Nat.mul_comm]⟩).coprime_dvd_right ⟨h, by rw [d4, Nat.mul_comm]⟩
    have k2 : Nat.Coprime b1 b2 := (cb.coprime_dvd_left ⟨h, by rw [d3, Nat.mul_comm]⟩).coprime_dvd_right ⟨g, by rw [d2, Nat.mul_comm]⟩
    exact Nat.Coprime.mul_left (Nat.Coprime.mul_right k1 c1) (Nat.Coprime.mul_right c2 k2)
  · have d2' : (bd : Int) = g * b2 := by rw [d2]; rfl
    have d4' : (ad : Int) = h * a2 := by rw [d4]; rfl
    have e : sg (decide (an < 0) != decide (bn < 0)) (a1 * b1) * ((g : Int) * h) = an * bn := by
      have : ∀ s t : Bool, sg (s != t) (a1 * b1) * ((g : Int) * h) = sg s (g * a1) * sg t (h * b1) := by
        intro s t
        cases s <;> cases t <;> simp [sg, Int.natCast_mul] <;> grind
      rw [this, f1, f2]
    simp only [Int.natCast_mul]
    rw [d2', d4', ← e]
    grind

theorem low_zero {y : Nat} : low 0 y = (⟨0, 1⟩, 0) := by unfold low res; simp
theorem sg_or (an bn : Int) (h1 : an ≠ 0) (h2 : bn ≠ 0) : decide (an * bn < 0) = (decide (an < 0) != decide (bn < 0)) := by
  rcases Int.lt_or_gt_of_ne h1 with p | p <;> rcases Int.lt_or_gt_of_ne h2 with q | q
  · have := Int.mul_pos_of_neg_of_neg p q
    simp [p, q]; omega
  · have := Int.mul_neg_of_neg_of_pos p q
    have : ¬ bn < 0 := by omega
    simp [*]
  · have := Int.mul_neg_of_pos_of_neg p q
    have : ¬ an < 0 := by omega
    simp [*]
  · have := Int.mul_pos p q
    have h3 : ¬ an < 0 := by omega
    have h4 : ¬ bn < 0 := by omega
    simp [h3, h4]; omega
end Go.Proofs.Ytfhifkcbdpgomaa
