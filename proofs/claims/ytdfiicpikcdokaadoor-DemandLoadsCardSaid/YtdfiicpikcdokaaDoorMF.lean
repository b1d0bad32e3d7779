/- Rational numbers in lowest terms: sums and products with small divisors; Of, Add, Sub, Mul, Div, Cmp, Floor; Mul, Sub, Div, Cmp, Floor, Sum; Cmp, Floor, Sum; Plain laws of numbers in lowest terms: the field laws, what undoes, the order; The arguments of the statements, opened: what does not depend on a chapter's data; The reference's functions on small numbers; The arguments of chapter 1's statements, opened; Chapter 1's example, and what its statements call; Sums and products are commutative and associative, and products distribute over sums; sums of lists; What was added can be subtracted, and what was multiplied by can be divided by; Comparison is an order that adding a number preserves; the greatest integer that is at most a number; sums, differences, products and quotients are those of the reference. Conditions: none. -/
import Derived.Test.YtdfiicpikcdokaaDoorME
namespace Go.Proofs.YtdfiicpikcdokaaDoor
set_option linter.unusedSimpArgs false
set_option linter.unusedVariables false
open Go.RowKit
set_option linter.unusedVariables false

def sg (s : Bool) (m : Nat) : Int := bif s then -(m : Int) else m
def res (s : Bool) (m k : Nat) : Rt × Int := if m = 0 then (⟨0, 1⟩, 0) else if m ≤ 1152921504606846976 ∧ k ≤ 1152921504606846976 then (⟨sg s m, (k : Int)⟩, 0) else (⟨0, 0⟩, 10)
/-- The number x / y in lowest terms, or the error. -/
def low (x : Int) (y : Nat) : Rt × Int := res (decide (x < 0)) (x.natAbs / Nat.gcd x.natAbs y) (y / Nat.gcd x.natAbs y)

theorem sg_natAbs (s : Bool) (m : Nat) : (sg s m).natAbs = m := by cases s <;> simp [sg]
theorem sg_of (x : Int) : sg (decide (x < 0)) x.natAbs = x := by
  by_cases h : x < 0 <;> simp [sg, h] <;> omega
theorem lowest_uniq {X y m k : Nat} (hc : Nat.Coprime m k) (hk : 0 < k) (hy : 0 < y) (h : X * k = m * y) : X / Nat.gcd X y = m ∧ y / Nat.gcd X y = k := by
  have h1 : k ∣ m * y := ⟨X, by rw [← h, Nat.mul_comm]⟩
  obtain ⟨c, hcy⟩ := hc.symm.dvd_of_dvd_mul_left h1
  subst hcy
  have h2 : X = m * c := by
    have : k * X = k * (m * c) := by rw [Nat.mul_comm, h, ← Nat.mul_assoc, Nat.mul_comm m k, Nat.mul_assoc]
    exact Nat.eq_of_mul_eq_mul_left hk this
  subst h2
  have h3 : Nat.gcd (m * c) (k * c) = c := by rw [Nat.gcd_mul_right, hc, Nat.one_mul]
  have hcp : 0 < c := Nat.pos_of_mul_pos_left hy
  rw [h3]
  exact ⟨Nat.mul_div_cancel _ hcp, Nat.mul_div_cancel _ hcp⟩
theorem natAbs_mul_nat (x : Int) (k : Nat) : (x * (k : Int)).natAbs = x.natAbs * k := by rw [Int.natAbs_mul]; rfl
theorem neg_iff {x : Int} {s : Bool} {m y k : Nat} (hm : 0 < m) (hk : 0 < k) (hy : 0 < y) (h : x * k = sg s m * y) : decide (x < 0) = s := by
  have hk' : (0 : Int) < k := by omega
  have hmy : (0 : Int) < (m : Int) * y := by rw [← Int.natCast_mul]; exact Int.natCast_pos.2 (Nat.mul_pos hm hy)
  cases s
  · simp only [sg, cond_false] at h
    rw [decide_eq_false_iff_not]
    intro hx
    have := Int.mul_neg_of_neg_of_pos hx hk'
    omega
  · simp only [sg, cond_true, Int.neg_mul] at h
    rw [decide_eq_true_iff]
    rcases Int.lt_or_le x 0 with hx | hx
    · exact hx
    · have := Int.mul_nonneg hx (Int.le_of_lt hk')
      omega
theorem low_eq {x : Int} {y m k : Nat} {s : Bool} (hc : Nat.Coprime m k) (hk : 0 < k) (hy : 0 < y) (h : x * k = sg s m * y) : low x y = res s m k := by
  have h1 : x.natAbs * k = m * y := by
    have := congrArg Int.natAbs h
    rw [natAbs_mul_nat, natAbs_mul_nat, sg_natAbs] at this
    exact this
  obtain ⟨e1, e2⟩ := lowest_uniq hc hk hy h1
  unfold low
  rw [e1, e2]
  rcases Nat.eq_zero_or_pos m with rfl | hm
  · rfl
  · rw [neg_iff hm hk hy h]
theorem low_terms (x : Int) (y : Nat) (hy : 0 < y) : Nat.Coprime (x.natAbs / Nat.gcd x.natAbs y) (y / Nat.gcd x.natAbs y) ∧ 0 < y / Nat.gcd x.natAbs y ∧ x * ((y / Nat.gcd x.natAbs y : Nat) : Int) = sg (decide (x < 0)) (x.natAbs / Nat.gcd x.natAbs y) * (y : Int) := by
  have hg : 0 < Nat.gcd x.natAbs y := Nat.gcd_pos_of_pos_right _ hy
  refine ⟨Nat.coprime_div_gcd_div_gcd hg, Nat.div_pos (Nat.le_of_dvd hy (Nat.gcd_dvd_right _ _)) hg, ?_⟩
  have h1 : x.natAbs = Nat.gcd x.natAbs y * (x.natAbs / Nat.gcd x.natAbs y) := (Nat.mul_div_cancel' (Nat.gcd_dvd_left _ _)).symm
  have h2 : y = Nat.gcd x.natAbs y * (y / Nat.gcd x.natAbs y) := (Nat.mul_div_cancel' (Nat.gcd_dvd_right _ _)).symm
  have h3 := sg_of x
  generalize x.natAbs / Nat.gcd x.natAbs y = a at *
  generalize y / Nat.gcd x.natAbs y = b at *
  generalize Nat.gcd x.natAbs y = g at *
  have h1' : (x.natAbs : Int) = g * a := by rw [h1]; rfl
  have h2' : (y : Int) = g * b := by rw [h2]; rfl
  generalize decide (x < 0) = s at *
  clear h1 h2
  unfold sg at *
  cases s <;> simp only [cond_true, cond_false] at * <;> rw [h2', ← h3, h1'] <;> grind
theorem low_congr {x x' : Int} {y y' : Nat} (hy : 0 < y) (hy' : 0 < y') (h : x * y' = x' * y) : low x y = low x' y' := by
  obtain ⟨h1, h2, h3⟩ := low_terms x' y' hy'
  show _ = res _ _ _
  refine low_eq h1 h2 hy ?_
  generalize ((y' / Nat.gcd x'.natAbs y' : Nat) : Int) = b at *
  generalize sg (decide (x' < 0)) (x'.natAbs / Nat.gcd x'.natAbs y') = a at *
  have hy2 : (y' : Int) ≠ 0 := by omega
  apply Int.eq_of_mul_eq_mul_right hy2
  grind
def nrmR (r : Rt) : Rt := if r.d = 0 then ⟨r.n, 1⟩ else r
/-- In lowest terms with a denominator. -/
def Low (r : Rt) : Prop := 1 ≤ r.d ∧ r.d ≤ 1152921504606846976 ∧ -1152921504606846976 ≤ r.n ∧ r.n ≤ 1152921504606846976 ∧ Nat.Coprime r.n.natAbs r.d.natAbs
theorem vld_low {r : Rt} (h : vldR r = true) : Low (nrmR r) := by
  unfold vldR mag at h
  simp only [Bool.or_eq_true, Bool.and_eq_true, decide_eq_true_eq] at h
  unfold nrmR Low
  rcases h with ⟨h1, h2⟩ | ⟨h1, h2, h3, h4, h5⟩
  · rw [if_pos h2]
    simp [h1]
  · rw [if_neg (by omega)]
    exact ⟨h1, h2, h3, h4, h5⟩
theorem low_vld {r : Rt} (h : Low r) : vldR r = true ∧ nrmR r = r := by
  obtain ⟨h1, h2, h3, h4, h5⟩ := h
  unfold vldR mag nrmR
  simp only [Bool.or_eq_true, Bool.and_eq_true, decide_eq_true_eq]
  exact ⟨.inr ⟨h1, h2, h3, h4, h5⟩, by rw [if_neg (by omega)]⟩
theorem low_ok {x : Int} {y : Nat} (hy : 0 < y) : ((low x y).2 = 0 ∧ Low (low x y).1 ∧ (low x y).1.n * y = x * (low x y).1.d) ∨ low x y = (⟨0, 0⟩, 10) := by
  obtain ⟨h1, h2, h3⟩ := low_terms x y hy
  unfold low res
  generalize x.natAbs / Nat.gcd x.natAbs y = a at *
  generalize y / Nat.gcd x.natAbs y = b at *
  split
  · rename_i h
    subst h
    have hx : x = 0 := by
      have h4 : sg (decide (x < 0)) 0 = 0 := by cases decide (x < 0) <;> rfl
      rw [h4, Int.zero_mul] at h3
      rcases Int.mul_eq_zero.1 h3 with h | h
      · exact h
      · omega
    subst hx
    exact .inl ⟨rfl, by unfold Low; simp, by simp⟩
  · split
    · rename_i h
      refine .inl ⟨rfl, ?_, ?_⟩
      · have e := sg_natAbs (decide (x < 0)) a
        unfold Low
        simp only
        rw [e, Int.natAbs_natCast]
        refine ⟨by omega, by omega, ?_, ?_, h1⟩ <;> omega
      · simp only; rw [h3]
    · exact .inr rfl
theorem low_self {r : Rt} (h : Low r) : low r.n r.d.natAbs = (r, 0) := by
  obtain ⟨h1, h2, h3, h4, h5⟩ := h
  obtain ⟨n, d⟩ := r
  simp only at *
  unfold low
  rw [h5, Nat.div_one, Nat.div_one]
  unfold res
  split
  · rename_i h
    have hn : n = 0 := by omega
    subst hn
    rw [Int.natAbs_zero, Nat.coprime_zero_left] at h5
    have : d = 1 := by omega
    subst this; rfl
  · rw [if_pos (by omega), sg_of]
    have : ((d.natAbs : Nat) : Int) = d := by omega
    rw [this]
/-- Sum and product, on numbers that have a denominator. -/
def addE (a b : Rt) : Rt × Int := low (a.n * b.d + b.n * a.d) (a.d.natAbs * b.d.natAbs)
def mulE (a b : Rt) : Rt × Int := low (a.n * b.n) (a.d.natAbs * b.d.natAbs)

theorem dvd_natAbs_add {d : Nat} {u v : Int} (h : d ∣ (u + v).natAbs) (h2 : d ∣ v.natAbs) : d ∣ u.natAbs := by
  rw [← Int.ofNat_dvd_left] at h h2 ⊢
  have := Int.dvd_sub h h2
  rwa [Int.add_sub_cancel] at this
theorem cop_of_sum {u v : Int} {x : Nat} (hu : Nat.Coprime u.natAbs x) (hv : x ∣ v.natAbs) : Nat.Coprime (u + v).natAbs x := by
  have h1 : Nat.gcd (u + v).natAbs x ∣ u.natAbs := dvd_natAbs_add (Nat.gcd_dvd_left _ _) (Nat.dvd_trans (Nat.gcd_dvd_right _ _) hv)
  exact Nat.eq_one_of_dvd_one (hu ▸ Nat.dvd_gcd h1 (Nat.gcd_dvd_right _ _))
/-- The addition of two numbers in lowest terms, with small divisors. -/
theorem knuth {an bn : Int} {ad bd : Nat} (ha : 0 < ad) (hb : 0 < bd) (ca : Nat.Coprime an.natAbs ad) (cb : Nat.Coprime bn.natAbs bd) (g x y : Nat) (hg : g = Nat.gcd ad bd) (hx : x = ad / g) (hy : y = bd / g) (S : Int) (hS : S = an * y + bn * x) (h : Nat) (hh : h = Nat.gcd g S.natAbs) :
    0 < g ∧ 0 < h ∧ low (an * bd + bn * ad) (ad * bd) = res (decide (S < 0)) (S.natAbs / h) (x * (bd / h)) := by
  have hg0 : 0 < g := by rw [hg]; exact Nat.gcd_pos_of_pos_left _ ha
  have hh0 : 0 < h := by rw [hh]; exact Nat.gcd_pos_of_pos_left _ hg0
  have e1 : ad = g * x := by rw [hx]; exact (Nat.mul_div_cancel' (hg ▸ Nat.gcd_dvd_left _ _)).symm
  have e2 : bd = g * y := by rw [hy]; exact (Nat.mul_div_cancel' (hg ▸ Nat.gcd_dvd_right _ _)).symm
  have cxy : Nat.Coprime x y := by rw [hx, hy, hg]; exact Nat.coprime_div_gcd_div_gcd (hg ▸ hg0)
  have hx0 : 0 < x := by rcases Nat.eq_zero_or_pos x with h | h; · rw [h] at e1; omega
                         · exact h
  have hy0 : 0 < y := by rcases Nat.eq_zero_or_pos y with h | h; · rw [h] at e2; omega
                         · exact h
  have cx : Nat.Coprime S.natAbs x := by
    rw [hS]
    refine cop_of_sum ?_ ?_
    · rw [natAbs_mul_nat]
      exact Nat.Coprime.mul_left (Nat.Coprime.coprime_dvd_right ⟨g, by rw [e1, Nat.mul_comm]⟩ ca) cxy.symm
    · rw [natAbs_mul_nat]; exact Nat.dvd_mul_left _ _
  have cy : Nat.Coprime S.natAbs y := by
    rw [hS, Int.add_comm]
    refine cop_of_sum ?_ ?_
    · rw [natAbs_mul_nat]
      exact Nat.Coprime.mul_left (Nat.Coprime.coprime_dvd_right ⟨g, by rw [e2, Nat.mul_comm]⟩ cb) cxy
    · rw [natAbs_mul_nat]; exact Nat.dvd_mul_left _ _
  have h1 : h ∣ g := hh ▸ Nat.gcd_dvd_left _ _
  have h2 : h ∣ S.natAbs := hh ▸ Nat.gcd_dvd_right _ _
  obtain ⟨gc, hgc⟩ := h1
  obtain ⟨sc, hsc⟩ := h2
  have c3 : Nat.Coprime sc gc := by
    have h3 := Nat.coprime_div_gcd_div_gcd (m := g) (n := S.natAbs) (hh ▸ hh0)
    rw [← hh, hsc, hgc, Nat.mul_div_cancel_left _ hh0, Nat.mul_div_cancel_left _ hh0] at h3
    exact h3.symm
  have e3 : S.natAbs / h = sc := by rw [hsc, Nat.mul_div_cancel_left _ hh0]
  have e4 : bd / h = gc * y := by rw [e2, hgc, Nat.mul_assoc, Nat.mul_div_cancel_left _ hh0]
  refine ⟨hg0, hh0, ?_⟩
  rw [e3, e4]
  have hscd : sc ∣ S.natAbs := ⟨h, by rw [hsc, Nat.mul_comm]⟩
  have hgc0 : 0 < gc := by rcases Nat.eq_zero_or_pos gc with h | h; · rw [h] at hgc; omega
                           · exact h
  refine low_eq ?_ (Nat.mul_pos hx0 (Nat.mul_pos hgc0 hy0)) (Nat.mul_pos ha hb) ?_
  · exact Nat.Coprime.mul_right (Nat.Coprime.coprime_dvd_left hscd cx) (Nat.Coprime.mul_right c3 (Nat.Coprime.coprime_dvd_left hscd cy))
  · have h5 := sg_of S
    rw [hsc] at h5
    have h6 : S = h * sg (decide (S < 0)) sc := by
      have : ∀ b : Bool, sg b (h * sc) = h * sg b sc := by intro b; cases b <;> simp [sg, Int.mul_neg]
      rw [this] at h5
      exact h5.symm
    generalize sg (decide (S < 0)) sc = q at *
    clear h5 e3 e4 hscd
    subst e1 e2
    simp only [Int.natCast_mul]
    have h7 : (g : Int) = h * gc := by rw [hgc]; rfl
    rw [h6] at hS
    clear hsc cx cy h6
    grind
theorem mulk {an bn : Int} {ad bd : Nat} (ha : 0 < ad) (hb : 0 < bd) (ca : Nat.Coprime an.natAbs ad) (cb : Nat.Coprime bn.natAbs bd) (g h : Nat) (hg : g = Nat.gcd an.natAbs bd) (hh : h = Nat.gcd bn.natAbs ad) :
    0 < g ∧ 0 < h ∧ low (an * bn) (ad * bd) = res (decide (an < 0) != decide (bn < 0)) (an.natAbs / g * (bn.natAbs / h)) (ad / h * (bd / g)) := by
  have hg0 : 0 < g := by rw [hg]; exact Nat.gcd_pos_of_pos_right _ hb
  have hh0 : 0 < h := by rw [hh]; exact Nat.gcd_pos_of_pos_right _ ha
  refine ⟨hg0, hh0, ?_⟩
  have c1 := Nat.coprime_div_gcd_div_gcd (m := an.natAbs) (n := bd) (hg ▸ hg0)
  have c2 := Nat.coprime_div_gcd_div_gcd (m := bn.natAbs) (n := ad) (hh ▸ hh0)
  rw [← hg] at c1
  rw [← hh] at c2
  have d1 : an.natAbs = g * (an.natAbs / g) := (Nat.mul_div_cancel' (hg ▸ Nat.gcd_dvd_left _ _)).symm
  have d2 : bd = g * (bd / g) := (Nat.mul_div_cancel' (hg ▸ Nat.gcd_dvd_right _ _)).symm
  have d3 : bn.natAbs = h * (bn.natAbs / h) := (Nat.mul_div_cancel' (hh ▸ Nat.gcd_dvd_left _ _)).symm
  have d4 : ad = h * (ad / h) := (Nat.mul_div_cancel' (hh ▸ Nat.gcd_dvd_right _ _)).symm
  have f1 := sg_of an
  have f2 := sg_of bn
  generalize an.natAbs / g = a1 at *
  generalize bn.natAbs / h = b1 at *
  generalize bd / g = b2 at *
  generalize ad / h = a2 at *
  rw [d1] at f1
  rw [d3] at f2
  have a2p : 0 < a2 := by rcases Nat.eq_zero_or_pos a2 with q | q; · rw [q] at d4; omega
                          · exact q
  have b2p : 0 < b2 := by rcases Nat.eq_zero_or_pos b2 with q | q; · rw [q] at d2; omega
                          · exact q
  refine low_eq ?_ (Nat.mul_pos a2p b2p) (Nat.mul_pos ha hb) ?_
  · have k1 : Nat.Coprime a1 a2 := (ca.coprime_dvd_left ⟨g, by rw [d1, Nat.mul_comm]⟩).coprime_dvd_right ⟨h, by rw [d4, Nat.mul_comm]⟩
    have k2 : Nat.Coprime b1 b2 := (cb.coprime_dvd_left ⟨h, by rw [d3, Nat.mul_comm]⟩).coprime_dvd_right ⟨g, by rw [d2, Nat.mul_comm]⟩
    exact Nat.Coprime.mul_left (Nat.Coprime.mul_right k1 c1) (Nat.Coprime.mul_right c2 k2)
  · have d2' : (bd : Int) = g * b2 := by rw [d2]; rfl
    have d4' : (ad : Int) = h * a2 := by rw [d4]; rfl
    have e : sg (decide (an < 0) != decide (bn < 0)) (a1 * b1) * ((g : Int) * h) = an * bn := by
      have : ∀ s t : Bool, sg (s != t) (a1 * b1) * ((g : Int) * h) = sg s (g * a1) * sg t (h * b1) := by
        intro s t
        cases s <;> cases t <;> simp [sg, Int.natCast_mul] <;> grind
      rw [this, f1, f2]
    simp only [Int.natCast_mul]
    rw [d2', d4', ← e]
    grind

theorem low_zero {y : Nat} : low 0 y = (⟨0, 1⟩, 0) := by unfold low res; simp
theorem sg_or (an bn : Int) (h1 : an ≠ 0) (h2 : bn ≠ 0) : decide (an * bn < 0) = (decide (an < 0) != decide (bn < 0)) := by
  rcases Int.lt_or_gt_of_ne h1 with p | p <;> rcases Int.lt_or_gt_of_ne h2 with q | q
  · have := Int.mul_pos_of_neg_of_neg p q
    simp [p, q]; omega
  · have := Int.mul_neg_of_neg_of_pos p q
    have : ¬ bn < 0 := by omega
    simp [*]
  · have := Int.mul_neg_of_pos_of_neg p q
    have : ¬ an < 0 := by omega
    simp [*]
  · have := Int.mul_pos p q
    have h3 : ¬ an < 0 := by omega
    have h4 : ¬ bn < 0 := by omega
    simp [h3, h4]; omega
end Go.Proofs.YtdfiicpikcdokaaDoor
namespace Go.Proofs.YtdfiicpikcdokaaDoor
set_option linter.unusedSimpArgs false
set_option linter.unusedVariables false
open Go.RowKit
set_option maxRecDepth 20000

def rrV (q : Rt × Int) : LV := .tup [ratV q.1, .sc (.int .i64 q.2)]
theorem div_wide (m d B : Nat) (h0 : 0 < d) (hB : 0 < B) : (m / B % d * B + m % B) / d = m / d % B ∧ (m / B % d * B + m % B) % d = m % d ∧ m / B / d = m / d / B := by
  have e1 := Nat.div_add_mod m B
  have e2 := Nat.div_add_mod (m / B) d
  have h3 : m / B % d < d := Nat.mod_lt _ h0
  have h4 : m % B < B := Nat.mod_lt _ hB
  have e5 : m / B / d = m / d / B := by rw [Nat.div_div_eq_div_mul, Nat.div_div_eq_div_mul, Nat.mul_comm]
  generalize m % B = lo at *
  generalize m / B = hi at *
  generalize hi % d = r at *
  generalize hi / d = q at *
  subst e2
  have hr : r * B + lo < d * B := by
    have : (r + 1) * B ≤ d * B := Nat.mul_le_mul_right _ h3
    rw [Nat.succ_mul] at this
    omega
  have em : m = d * (q * B) + (r * B + lo) := by rw [← e1]; grind
  have h6 : (r * B + lo) / d < B := by rw [Nat.div_lt_iff_lt_mul h0, Nat.mul_comm B]; exact hr
  refine ⟨?_, ?_, e5⟩
  · rw [em, Nat.mul_add_div h0, Nat.mul_comm q, Nat.mul_add_mod, Nat.mod_eq_of_lt h6]
  · rw [em, Nat.mul_add_mod]
theorem ev_divide (s : Bool) (m d : Nat) (hm : m < 340282366920938463463374607431768211456) (h0 : 0 < d) (h1 : d < 18446744073709551616) : Ev Tryd.prog 35 [wV s m, U64 d] (.tup [wV s (m / d), U64 (m % d)]) := by
  have h2 := ev_div64 (m / 18446744073709551616 % d) (m % 18446744073709551616) d (Nat.mod_lt _ h0) h1 (Nat.mod_lt _ (by decide))
  unfold wV
  refine ev_fn Tryd.func35 comp35 (show 2 ≤ Tryd.f35.ntmps by decide) ?_; unfold cf35 rf35; simp only [↓EVP0, EVQ0, EVQ1, EVQ2, EVQ3, EVQ4, EVA, EVK, EVFR, ↓reduceIte, Nat.reduceEqDiff, Nat.reduceAdd, Nat.reduceSub, Nat.reduceMul, Nat.reduceLT, Nat.reduceLeDiff, reduceCtorEq, Int.reduceToNat, Int.reduceLT, Int.reduceLE, Int.reduceAdd, Int.reduceSub, Int.reduceMul, Int.reduceNeg, Int.reduceEq, Nat.reduceMod, forall_eq_or_imp, forall_eq, forall_const, cond_true, cond_false, decide_true, decide_false, true_imp_iff, implies_true, Int.cast_ofNat_Int, forall_eq']
  refine ⟨by omega, ?_⟩
  rw [← Int.ofNat_tmod]
  first | refine qCallK_ro (h2) ?_ ?_ | refine eCallK_ro (h2) ?_ ?_
  · simp only [↓EVP0, EVQ0, EVQ1, EVQ2, EVQ3, EVQ4, EVA, EVK, EVFR, ↓reduceIte, Nat.reduceEqDiff, Nat.reduceAdd, Nat.reduceSub, Nat.reduceMul, Nat.reduceLT, Nat.reduceLeDiff, reduceCtorEq, Int.reduceToNat, Int.reduceLT, Int.reduceLE, Int.reduceAdd, Int.reduceSub, Int.reduceMul, Int.reduceNeg, Int.reduceEq, Nat.reduceMod, forall_eq_or_imp, forall_eq, forall_const, cond_true, cond_false, decide_true, decide_false, true_imp_iff, implies_true, Int.cast_ofNat_Int, forall_eq']
  simp only [↓EVP0, EVQ0, EVQ1, EVQ2, EVQ3, EVQ4, EVA, EVK, EVFR, ↓reduceIte, Nat.reduceEqDiff, Nat.reduceAdd, Nat.reduceSub, Nat.reduceMul, Nat.reduceLT, Nat.reduceLeDiff, reduceCtorEq, Int.reduceToNat, Int.reduceLT, Int.reduceLE, Int.reduceAdd, Int.reduceSub, Int.reduceMul, Int.reduceNeg, Int.reduceEq, Nat.reduceMod, forall_eq_or_imp, forall_eq, forall_const, cond_true, cond_false, decide_true, decide_false, true_imp_iff, implies_true, Int.cast_ofNat_Int, forall_eq']
  obtain ⟨g1, g2, g3⟩ := div_wide m d 18446744073709551616 h0 (by decide)
  rw [← Int.ofNat_tdiv, g1, g2, g3]
  have : m / d ≤ m := Nat.div_le_self _ _
  have h5 : m / d / 18446744073709551616 < 18446744073709551616 := by omega
  refine ⟨by omega, ⟨?_, rfl⟩, rfl⟩
  generalize m / d / 18446744073709551616 = z at *
  omega
theorem ev_normal (r : Rt) : Ev Tryd.prog 30 [ratV r] (ratV (nrmR r)) := by
  unfold ratV
  refine ev_fn Tryd.func30 comp30 (show 1 ≤ Tryd.f30.ntmps by decide) ?_; unfold cf30 rf30; simp only [↓EVP0, EVQ0, EVQ1, EVQ2, EVQ3, EVQ4, EVA, EVK, EVFR, ↓reduceIte, Nat.reduceEqDiff, Nat.reduceAdd, Nat.reduceSub, Nat.reduceMul, Nat.reduceLT, Nat.reduceLeDiff, reduceCtorEq, Int.reduceToNat, Int.reduceLT, Int.reduceLE, Int.reduceAdd, Int.reduceSub, Int.reduceMul, Int.reduceNeg, Int.reduceEq, Nat.reduceMod, forall_eq_or_imp, forall_eq, forall_const, cond_true, cond_false, decide_true, decide_false, true_imp_iff, implies_true, Int.cast_ofNat_Int, forall_eq']
  unfold nrmR
  refine ⟨fun g => ?_, fun g => ?_⟩
  · rw [if_pos (by simpa using g)]; exact ⟨rfl, rfl⟩
  · rw [if_neg (by simpa using g)]; exact ⟨rfl, rfl⟩
theorem ev_result (s : Bool) (m k : Nat) : Ev Tryd.prog 37 [wV s m, wV false k] (rrV (res s m k)) := by
  have h1 := ev_fits s m
  have h2 := ev_fits false k
  unfold rrV ratV
  unfold wV at *
  refine ev_fn Tryd.func37 comp37 (show 2 ≤ Tryd.f37.ntmps by decide) ?_; unfold cf37 rf37; simp only [↓EVP0, EVQ0, EVQ1, EVQ2, EVQ3, EVQ4, EVA, EVK, EVFR, ↓reduceIte, Nat.reduceEqDiff, Nat.reduceAdd, Nat.reduceSub, Nat.reduceMul, Nat.reduceLT, Nat.reduceLeDiff, reduceCtorEq, Int.reduceToNat, Int.reduceLT, Int.reduceLE, Int.reduceAdd, Int.reduceSub, Int.reduceMul, Int.reduceNeg, Int.reduceEq, Nat.reduceMod, forall_eq_or_imp, forall_eq, forall_const, cond_true, cond_false, decide_true, decide_false, true_imp_iff, implies_true, Int.cast_ofNat_Int, forall_eq']
  refine ⟨fun g => ?_, fun g => ?_⟩
  · have : m = 0 := by
      rw [condF] at g
      simp only [Bool.and_eq_true, decide_eq_true_eq] at g
      omega
    unfold res
    rw [if_pos this]
    exact ⟨⟨rfl, rfl⟩, rfl⟩
  have hm : m ≠ 0 := by
    intro h
    subst h
    simp at g
  refine callK_ro (h1) ?_ ?_
  · simp only [↓EVP0, EVQ0, EVQ1, EVQ2, EVQ3, EVQ4, EVA, EVK, EVFR, ↓reduceIte, Nat.reduceEqDiff, Nat.reduceAdd, Nat.reduceSub, Nat.reduceMul, Nat.reduceLT, Nat.reduceLeDiff, reduceCtorEq, Int.reduceToNat, Int.reduceLT, Int.reduceLE, Int.reduceAdd, Int.reduceSub, Int.reduceMul, Int.reduceNeg, Int.reduceEq, Nat.reduceMod, forall_eq_or_imp, forall_eq, forall_const, cond_true, cond_false, decide_true, decide_false, true_imp_iff, implies_true, Int.cast_ofNat_Int, forall_eq']
  simp only [↓EVP0, EVQ0, EVQ1, EVQ2, EVQ3, EVQ4, EVA, EVK, EVFR, ↓reduceIte, Nat.reduceEqDiff, Nat.reduceAdd, Nat.reduceSub, Nat.reduceMul, Nat.reduceLT, Nat.reduceLeDiff, reduceCtorEq, Int.reduceToNat, Int.reduceLT, Int.reduceLE, Int.reduceAdd, Int.reduceSub, Int.reduceMul, Int.reduceNeg, Int.reduceEq, Nat.reduceMod, forall_eq_or_imp, forall_eq, forall_const, cond_true, cond_false, decide_true, decide_false, true_imp_iff, implies_true, Int.cast_ofNat_Int, forall_eq']
  (refine lops_ge_imp ?_; simp only [↓EVP0, EVQ0, EVQ1, EVQ2, EVQ3, EVQ4, EVA, EVK, EVFR, ↓reduceIte, Nat.reduceEqDiff, Nat.reduceAdd, Nat.reduceSub, Nat.reduceMul, Nat.reduceLT, Nat.reduceLeDiff, reduceCtorEq, Int.reduceToNat, Int.reduceLT, Int.reduceLE, Int.reduceAdd, Int.reduceSub, Int.reduceMul, Int.reduceNeg, Int.reduceEq, Nat.reduceMod, forall_eq_or_imp, forall_eq, forall_const, cond_true, cond_false, decide_true, decide_false, true_imp_iff, implies_true, Int.cast_ofNat_Int, forall_eq'])
  refine gCallK_ro _ (fun _ => h2) (fun _ => ?_) ?_
  · simp only [↓EVP0, EVQ0, EVQ1, EVQ2, EVQ3, EVQ4, EVA, EVK, EVFR, ↓reduceIte, Nat.reduceEqDiff, Nat.reduceAdd, Nat.reduceSub, Nat.reduceMul, Nat.reduceLT, Nat.reduceLeDiff, reduceCtorEq, Int.reduceToNat, Int.reduceLT, Int.reduceLE, Int.reduceAdd, Int.reduceSub, Int.reduceMul, Int.reduceNeg, Int.reduceEq, Nat.reduceMod, forall_eq_or_imp, forall_eq, forall_const, cond_true, cond_false, decide_true, decide_false, true_imp_iff, implies_true, Int.cast_ofNat_Int, forall_eq']
  simp only [↓EVP0, EVQ0, EVQ1, EVQ2, EVQ3, EVQ4, EVA, EVK, EVFR, ↓reduceIte, Nat.reduceEqDiff, Nat.reduceAdd, Nat.reduceSub, Nat.reduceMul, Nat.reduceLT, Nat.reduceLeDiff, reduceCtorEq, Int.reduceToNat, Int.reduceLT, Int.reduceLE, Int.reduceAdd, Int.reduceSub, Int.reduceMul, Int.reduceNeg, Int.reduceEq, Nat.reduceMod, forall_eq_or_imp, forall_eq, forall_const, cond_true, cond_false, decide_true, decide_false, true_imp_iff, implies_true, Int.cast_ofNat_Int, forall_eq']
  have hc : (bif !decide (m ≤ 1152921504606846976) then true else !decide (k ≤ 1152921504606846976)) = !decide (m ≤ 1152921504606846976 ∧ k ≤ 1152921504606846976) := by
    rw [condT]
    cases h8 : decide (m ≤ 1152921504606846976) <;> cases h9 : decide (k ≤ 1152921504606846976) <;> simp_all
  rw [hc]
  unfold res
  rw [if_neg hm]
  refine ⟨fun g2 => ?_, fun g2 => ?_⟩
  · rw [if_neg (by intro h8; rw [decide_eq_true h8] at g2; simp at g2)]; exact ⟨⟨rfl, rfl⟩, rfl⟩
  · have g3 : m ≤ 1152921504606846976 ∧ k ≤ 1152921504606846976 := by simpa using g2
    rw [if_pos g3]
    have h3 := ev_signed s m g3.1
    have h4 := ev_signed false k g3.2
    unfold wV at h3 h4
    first | refine qCallK_ro (h3) ?_ ?_ | refine eCallK_ro (h3) ?_ ?_
    · simp only [↓EVP0, EVQ0, EVQ1, EVQ2, EVQ3, EVQ4, EVA, EVK, EVFR, ↓reduceIte, Nat.reduceEqDiff, Nat.reduceAdd, Nat.reduceSub, Nat.reduceMul, Nat.reduceLT, Nat.reduceLeDiff, reduceCtorEq, Int.reduceToNat, Int.reduceLT, Int.reduceLE, Int.reduceAdd, Int.reduceSub, Int.reduceMul, Int.reduceNeg, Int.reduceEq, Nat.reduceMod, forall_eq_or_imp, forall_eq, forall_const, cond_true, cond_false, decide_true, decide_false, true_imp_iff, implies_true, Int.cast_ofNat_Int, forall_eq']
    simp only [↓EVP0, EVQ0, EVQ1, EVQ2, EVQ3, EVQ4, EVA, EVK, EVFR, ↓reduceIte, Nat.reduceEqDiff, Nat.reduceAdd, Nat.reduceSub, Nat.reduceMul, Nat.reduceLT, Nat.reduceLeDiff, reduceCtorEq, Int.reduceToNat, Int.reduceLT, Int.reduceLE, Int.reduceAdd, Int.reduceSub, Int.reduceMul, Int.reduceNeg, Int.reduceEq, Nat.reduceMod, forall_eq_or_imp, forall_eq, forall_const, cond_true, cond_false, decide_true, decide_false, true_imp_iff, implies_true, Int.cast_ofNat_Int, forall_eq']
    first | refine qCallK_ro (h4) ?_ ?_ | refine eCallK_ro (h4) ?_ ?_
    · simp only [↓EVP0, EVQ0, EVQ1, EVQ2, EVQ3, EVQ4, EVA, EVK, EVFR, ↓reduceIte, Nat.reduceEqDiff, Nat.reduceAdd, Nat.reduceSub, Nat.reduceMul, Nat.reduceLT, Nat.reduceLeDiff, reduceCtorEq, Int.reduceToNat, Int.reduceLT, Int.reduceLE, Int.reduceAdd, Int.reduceSub, Int.reduceMul, Int.reduceNeg, Int.reduceEq, Nat.reduceMod, forall_eq_or_imp, forall_eq, forall_const, cond_true, cond_false, decide_true, decide_false, true_imp_iff, implies_true, Int.cast_ofNat_Int, forall_eq']
    simp only [↓EVP0, EVQ0, EVQ1, EVQ2, EVQ3, EVQ4, EVA, EVK, EVFR, ↓reduceIte, Nat.reduceEqDiff, Nat.reduceAdd, Nat.reduceSub, Nat.reduceMul, Nat.reduceLT, Nat.reduceLeDiff, reduceCtorEq, Int.reduceToNat, Int.reduceLT, Int.reduceLE, Int.reduceAdd, Int.reduceSub, Int.reduceMul, Int.reduceNeg, Int.reduceEq, Nat.reduceMod, forall_eq_or_imp, forall_eq, forall_const, cond_true, cond_false, decide_true, decide_false, true_imp_iff, implies_true, Int.cast_ofNat_Int, forall_eq']
    rfl
/-- The program's sum. -/
def addR (a b : Rt) : Rt × Int := if vldR a = true ∧ vldR b = true then addE (nrmR a) (nrmR b) else (⟨0, 0⟩, 1)
def mulR (a b : Rt) : Rt × Int := if vldR a = true ∧ vldR b = true then mulE (nrmR a) (nrmR b) else (⟨0, 0⟩, 1)
def ofR (n d : Int) : Rt × Int := if d = 0 then (⟨0, 0⟩, 2) else low (if d < 0 then -n else n) (mag d)
theorem nrm_ok {a : Rt} (h : RtOk a) : RtOk (nrmR a) := by
  unfold nrmR; split
  · exact ⟨h.1, by unfold In64; simp⟩
  · exact h
theorem cast_mod {x : Nat} (h : x < 18446744073709551616) : (x : Int) % 18446744073709551616 = x := by omega
theorem res_zero (s t : Bool) (k : Nat) : res s 0 k = res t 0 k := rfl
theorem addW_sg (s t : Bool) (m k : Nat) : sg (addW s m t k).1 (addW s m t k).2 = sg s m + sg t k := by
  unfold addW
  by_cases h : s = t
  · subst h
    cases s <;> simp [sg] <;> omega
  · rw [decide_eq_false h, cond_false]
    by_cases h2 : m < k
    · rw [decide_eq_true h2, cond_true]
      cases s <;> cases t <;> simp_all [sg] <;> omega
    · rw [decide_eq_false h2, cond_false]
      cases s <;> cases t <;> simp_all [sg] <;> omega
theorem sg_prod (n : Int) (y : Nat) : sg (decide (n < 0)) (mag n * y) = n * y := by
  have h := sg_of n
  have : sg (decide (n < 0)) (mag n * y) = sg (decide (n < 0)) n.natAbs * y := by
    unfold mag
    generalize n.natAbs = k
    cases decide (n < 0) <;> simp [sg, Int.natCast_mul, Int.neg_mul]
  rw [this, h]
theorem mul_small {a b : Nat} (ha : a ≤ 9223372036854775808) (hb : b ≤ 9223372036854775808) : a * b ≤ 85070591730234615865843651857942052864 := Nat.le_trans (Nat.mul_le_mul ha hb) (by decide)
theorem addW_le (s t : Bool) (m k : Nat) : (addW s m t k).2 ≤ m + k := by
  unfold addW
  cases decide (s = t) <;> cases decide (m < k) <;> simp <;> omega
theorem sg_inv {s : Bool} {m : Nat} {x : Int} (h : sg s m = x) : x.natAbs = m ∧ (0 < m → decide (x < 0) = s) := by
  subst h
  refine ⟨sg_natAbs s m, fun h => ?_⟩
  cases s
  · exact decide_eq_false (show ¬ (m : Int) < 0 by omega)
  · exact decide_eq_true (show -(m : Int) < 0 by omega)
theorem nv_cond (a b : Bool) : (bif !a then true else !b) = !decide (a = true ∧ b = true) := by cases a <;> cases b <;> rfl
theorem ev_add (a b : Rt) (ha : RtOk a) (hb : RtOk b) : Ev Tryd.prog 13 [ratV a, ratV b] (rrV (addR a b)) := by
  have v1 := ev_valid a ha
  have v2 := ev_valid b hb
  unfold rrV
  unfold ratV at *
  refine ev_fn Tryd.func13 comp13 (show 2 ≤ Tryd.f13.ntmps by decide) ?_; unfold cf13 rf13; simp only [↓EVP0, EVQ0, EVQ1, EVQ2, EVQ3, EVQ4, EVA, EVK, EVFR, ↓reduceIte, Nat.reduceEqDiff, Nat.reduceAdd, Nat.reduceSub, Nat.reduceMul, Nat.reduceLT, Nat.reduceLeDiff, reduceCtorEq, Int.reduceToNat, Int.reduceLT, Int.reduceLE, Int.reduceAdd, Int.reduceSub, Int.reduceMul, Int.reduceNeg, Int.reduceEq, Nat.reduceMod, forall_eq_or_imp, forall_eq, forall_const, cond_true, cond_false, decide_true, decide_false, true_imp_iff, implies_true, Int.cast_ofNat_Int, forall_eq']
  refine callK_ro (v1) ?_ ?_
  · simp only [↓EVP0, EVQ0, EVQ1, EVQ2, EVQ3, EVQ4, EVA, EVK, EVFR, ↓reduceIte, Nat.reduceEqDiff, Nat.reduceAdd, Nat.reduceSub, Nat.reduceMul, Nat.reduceLT, Nat.reduceLeDiff, reduceCtorEq, Int.reduceToNat, Int.reduceLT, Int.reduceLE, Int.reduceAdd, Int.reduceSub, Int.reduceMul, Int.reduceNeg, Int.reduceEq, Nat.reduceMod, forall_eq_or_imp, forall_eq, forall_const, cond_true, cond_false, decide_true, decide_false, true_imp_iff, implies_true, Int.cast_ofNat_Int, forall_eq']
  simp only [↓EVP0, EVQ0, EVQ1, EVQ2, EVQ3, EVQ4, EVA, EVK, EVFR, ↓reduceIte, Nat.reduceEqDiff, Nat.reduceAdd, Nat.reduceSub, Nat.reduceMul, Nat.reduceLT, Nat.reduceLeDiff, reduceCtorEq, Int.reduceToNat, Int.reduceLT, Int.reduceLE, Int.reduceAdd, Int.reduceSub, Int.reduceMul, Int.reduceNeg, Int.reduceEq, Nat.reduceMod, forall_eq_or_imp, forall_eq, forall_const, cond_true, cond_false, decide_true, decide_false, true_imp_iff, implies_true, Int.cast_ofNat_Int, forall_eq']
  (refine lops_ge_imp ?_; simp only [↓EVP0, EVQ0, EVQ1, EVQ2, EVQ3, EVQ4, EVA, EVK, EVFR, ↓reduceIte, Nat.reduceEqDiff, Nat.reduceAdd, Nat.reduceSub, Nat.reduceMul, Nat.reduceLT, Nat.reduceLeDiff, reduceCtorEq, Int.reduceToNat, Int.reduceLT, Int.reduceLE, Int.reduceAdd, Int.reduceSub, Int.reduceMul, Int.reduceNeg, Int.reduceEq, Nat.reduceMod, forall_eq_or_imp, forall_eq, forall_const, cond_true, cond_false, decide_true, decide_false, true_imp_iff, implies_true, Int.cast_ofNat_Int, forall_eq'])
  refine gCallK_ro _ (fun _ => v2) (fun _ => ?_) ?_
  · simp only [↓EVP0, EVQ0, EVQ1, EVQ2, EVQ3, EVQ4, EVA, EVK, EVFR, ↓reduceIte, Nat.reduceEqDiff, Nat.reduceAdd, Nat.reduceSub, Nat.reduceMul, Nat.reduceLT, Nat.reduceLeDiff, reduceCtorEq, Int.reduceToNat, Int.reduceLT, Int.reduceLE, Int.reduceAdd, Int.reduceSub, Int.reduceMul, Int.reduceNeg, Int.reduceEq, Nat.reduceMod, forall_eq_or_imp, forall_eq, forall_const, cond_true, cond_false, decide_true, decide_false, true_imp_iff, implies_true, Int.cast_ofNat_Int, forall_eq']
  simp only [↓EVP0, EVQ0, EVQ1, EVQ2, EVQ3, EVQ4, EVA, EVK, EVFR, ↓reduceIte, Nat.reduceEqDiff, Nat.reduceAdd, Nat.reduceSub, Nat.reduceMul, Nat.reduceLT, Nat.reduceLeDiff, reduceCtorEq, Int.reduceToNat, Int.reduceLT, Int.reduceLE, Int.reduceAdd, Int.reduceSub, Int.reduceMul, Int.reduceNeg, Int.reduceEq, Nat.reduceMod, forall_eq_or_imp, forall_eq, forall_const, cond_true, cond_false, decide_true, decide_false, true_imp_iff, implies_true, Int.cast_ofNat_Int, forall_eq']
  rw [nv_cond]
  unfold addR
  refine ⟨fun g => ?_, fun g => ?_⟩
  · rw [if_neg (by intro h8; rw [decide_eq_true h8] at g; simp at g)]; exact ⟨⟨rfl, rfl⟩, rfl⟩
  have hv : vldR a = true ∧ vldR b = true := by simpa using g
  rw [if_pos hv]
  have n1 := ev_normal a
  have n2 := ev_normal b
  unfold ratV at n1 n2
  first | refine qCallK_ro (n1) ?_ ?_ | refine eCallK_ro (n1) ?_ ?_
  · simp only [↓EVP0, EVQ0, EVQ1, EVQ2, EVQ3, EVQ4, EVA, EVK, EVFR, ↓reduceIte, Nat.reduceEqDiff, Nat.reduceAdd, Nat.reduceSub, Nat.reduceMul, Nat.reduceLT, Nat.reduceLeDiff, reduceCtorEq, Int.reduceToNat, Int.reduceLT, Int.reduceLE, Int.reduceAdd, Int.reduceSub, Int.reduceMul, Int.reduceNeg, Int.reduceEq, Nat.reduceMod, forall_eq_or_imp, forall_eq, forall_const, cond_true, cond_false, decide_true, decide_false, true_imp_iff, implies_true, Int.cast_ofNat_Int, forall_eq']
  simp only [↓EVP0, EVQ0, EVQ1, EVQ2, EVQ3, EVQ4, EVA, EVK, EVFR, ↓reduceIte, Nat.reduceEqDiff, Nat.reduceAdd, Nat.reduceSub, Nat.reduceMul, Nat.reduceLT, Nat.reduceLeDiff, reduceCtorEq, Int.reduceToNat, Int.reduceLT, Int.reduceLE, Int.reduceAdd, Int.reduceSub, Int.reduceMul, Int.reduceNeg, Int.reduceEq, Nat.reduceMod, forall_eq_or_imp, forall_eq, forall_const, cond_true, cond_false, decide_true, decide_false, true_imp_iff, implies_true, Int.cast_ofNat_Int, forall_eq']
  first | refine qCallK_ro (n2) ?_ ?_ | refine eCallK_ro (n2) ?_ ?_
  · simp only [↓EVP0, EVQ0, EVQ1, EVQ2, EVQ3, EVQ4, EVA, EVK, EVFR, ↓reduceIte, Nat.reduceEqDiff, Nat.reduceAdd, Nat.reduceSub, Nat.reduceMul, Nat.reduceLT, Nat.reduceLeDiff, reduceCtorEq, Int.reduceToNat, Int.reduceLT, Int.reduceLE, Int.reduceAdd, Int.reduceSub, Int.reduceMul, Int.reduceNeg, Int.reduceEq, Nat.reduceMod, forall_eq_or_imp, forall_eq, forall_const, cond_true, cond_false, decide_true, decide_false, true_imp_iff, implies_true, Int.cast_ofNat_Int, forall_eq']
  simp only [↓EVP0, EVQ0, EVQ1, EVQ2, EVQ3, EVQ4, EVA, EVK, EVFR, ↓reduceIte, Nat.reduceEqDiff, Nat.reduceAdd, Nat.reduceSub, Nat.reduceMul, Nat.reduceLT, Nat.reduceLeDiff, reduceCtorEq, Int.reduceToNat, Int.reduceLT, Int.reduceLE, Int.reduceAdd, Int.reduceSub, Int.reduceMul, Int.reduceNeg, Int.reduceEq, Nat.reduceMod, forall_eq_or_imp, forall_eq, forall_const, cond_true, cond_false, decide_true, decide_false, true_imp_iff, implies_true, Int.cast_ofNat_Int, forall_eq']
  have hA := vld_low hv.1
  have hB := vld_low hv.2
  have oA := nrm_ok ha
  have oB := nrm_ok hb
  generalize nrmR a = A at *
  generalize nrmR b = B at *
  have s1 := ev_size A.d oA.2
  have s2 := ev_size B.d oB.2
  have g1 := ev_gcd (mag A.d) (mag B.d)
  first | refine qCallK_ro (s1) ?_ ?_ | refine eCallK_ro (s1) ?_ ?_
  · simp only [↓EVP0, EVQ0, EVQ1, EVQ2, EVQ3, EVQ4, EVA, EVK, EVFR, ↓reduceIte, Nat.reduceEqDiff, Nat.reduceAdd, Nat.reduceSub, Nat.reduceMul, Nat.reduceLT, Nat.reduceLeDiff, reduceCtorEq, Int.reduceToNat, Int.reduceLT, Int.reduceLE, Int.reduceAdd, Int.reduceSub, Int.reduceMul, Int.reduceNeg, Int.reduceEq, Nat.reduceMod, forall_eq_or_imp, forall_eq, forall_const, cond_true, cond_false, decide_true, decide_false, true_imp_iff, implies_true, Int.cast_ofNat_Int, forall_eq']
  simp only [↓EVP0, EVQ0, EVQ1, EVQ2, EVQ3, EVQ4, EVA, EVK, EVFR, ↓reduceIte, Nat.reduceEqDiff, Nat.reduceAdd, Nat.reduceSub, Nat.reduceMul, Nat.reduceLT, Nat.reduceLeDiff, reduceCtorEq, Int.reduceToNat, Int.reduceLT, Int.reduceLE, Int.reduceAdd, Int.reduceSub, Int.reduceMul, Int.reduceNeg, Int.reduceEq, Nat.reduceMod, forall_eq_or_imp, forall_eq, forall_const, cond_true, cond_false, decide_true, decide_false, true_imp_iff, implies_true, Int.cast_ofNat_Int, forall_eq']
  first | refine qCallK_ro (s2) ?_ ?_ | refine eCallK_ro (s2) ?_ ?_
  · simp only [↓EVP0, EVQ0, EVQ1, EVQ2, EVQ3, EVQ4, EVA, EVK, EVFR, ↓reduceIte, Nat.reduceEqDiff, Nat.reduceAdd, Nat.reduceSub, Nat.reduceMul, Nat.reduceLT, Nat.reduceLeDiff, reduceCtorEq, Int.reduceToNat, Int.reduceLT, Int.reduceLE, Int.reduceAdd, Int.reduceSub, Int.reduceMul, Int.reduceNeg, Int.reduceEq, Nat.reduceMod, forall_eq_or_imp, forall_eq, forall_const, cond_true, cond_false, decide_true, decide_false, true_imp_iff, implies_true, Int.cast_ofNat_Int, forall_eq']
  simp only [↓EVP0, EVQ0, EVQ1, EVQ2, EVQ3, EVQ4, EVA, EVK, EVFR, ↓reduceIte, Nat.reduceEqDiff, Nat.reduceAdd, Nat.reduceSub, Nat.reduceMul, Nat.reduceLT, Nat.reduceLeDiff, reduceCtorEq, Int.reduceToNat, Int.reduceLT, Int.reduceLE, Int.reduceAdd, Int.reduceSub, Int.reduceMul, Int.reduceNeg, Int.reduceEq, Nat.reduceMod, forall_eq_or_imp, forall_eq, forall_const, cond_true, cond_false, decide_true, decide_false, true_imp_iff, implies_true, Int.cast_ofNat_Int, forall_eq']
  first | refine qCallK_ro (g1) ?_ ?_ | refine eCallK_ro (g1) ?_ ?_
  · simp only [↓EVP0, EVQ0, EVQ1, EVQ2, EVQ3, EVQ4, EVA, EVK, EVFR, ↓reduceIte, Nat.reduceEqDiff, Nat.reduceAdd, Nat.reduceSub, Nat.reduceMul, Nat.reduceLT, Nat.reduceLeDiff, reduceCtorEq, Int.reduceToNat, Int.reduceLT, Int.reduceLE, Int.reduceAdd, Int.reduceSub, Int.reduceMul, Int.reduceNeg, Int.reduceEq, Nat.reduceMod, forall_eq_or_imp, forall_eq, forall_const, cond_true, cond_false, decide_true, decide_false, true_imp_iff, implies_true, Int.cast_ofNat_Int, forall_eq']
  simp only [↓EVP0, EVQ0, EVQ1, EVQ2, EVQ3, EVQ4, EVA, EVK, EVFR, ↓reduceIte, Nat.reduceEqDiff, Nat.reduceAdd, Nat.reduceSub, Nat.reduceMul, Nat.reduceLT, Nat.reduceLeDiff, reduceCtorEq, Int.reduceToNat, Int.reduceLT, Int.reduceLE, Int.reduceAdd, Int.reduceSub, Int.reduceMul, Int.reduceNeg, Int.reduceEq, Nat.reduceMod, forall_eq_or_imp, forall_eq, forall_const, cond_true, cond_false, decide_true, decide_false, true_imp_iff, implies_true, Int.cast_ofNat_Int, forall_eq']
  have pa : 0 < mag A.d := by have := hA.1; unfold mag; omega
  have pb : 0 < mag B.d := by have := hB.1; unfold mag; omega
  have la := mag_le oA.2
  have lb := mag_le oB.2
  obtain ⟨k1, k2, k3⟩ := knuth (an := A.n) (bn := B.n) pa pb hA.2.2.2.2 hB.2.2.2.2 _ _ _ rfl rfl rfl _ rfl _ rfl
  have hgne : ((Nat.gcd (mag A.d) (mag B.d) : Nat) : Int) ≠ 0 := by omega
  have lx : mag A.d / Nat.gcd (mag A.d) (mag B.d) ≤ mag A.d := Nat.div_le_self _ _
  have ly : mag B.d / Nat.gcd (mag A.d) (mag B.d) ≤ mag B.d := Nat.div_le_self _ _
  first | refine qCallK_ro (s1) ?_ ?_ | refine eCallK_ro (s1) ?_ ?_
  · simp only [↓EVP0, EVQ0, EVQ1, EVQ2, EVQ3, EVQ4, EVA, EVK, EVFR, ↓reduceIte, Nat.reduceEqDiff, Nat.reduceAdd, Nat.reduceSub, Nat.reduceMul, Nat.reduceLT, Nat.reduceLeDiff, reduceCtorEq, Int.reduceToNat, Int.reduceLT, Int.reduceLE, Int.reduceAdd, Int.reduceSub, Int.reduceMul, Int.reduceNeg, Int.reduceEq, Nat.reduceMod, forall_eq_or_imp, forall_eq, forall_const, cond_true, cond_false, decide_true, decide_false, true_imp_iff, implies_true, Int.cast_ofNat_Int, forall_eq']
  simp only [↓EVP0, EVQ0, EVQ1, EVQ2, EVQ3, EVQ4, EVA, EVK, EVFR, ↓reduceIte, Nat.reduceEqDiff, Nat.reduceAdd, Nat.reduceSub, Nat.reduceMul, Nat.reduceLT, Nat.reduceLeDiff, reduceCtorEq, Int.reduceToNat, Int.reduceLT, Int.reduceLE, Int.reduceAdd, Int.reduceSub, Int.reduceMul, Int.reduceNeg, Int.reduceEq, Nat.reduceMod, forall_eq_or_imp, forall_eq, forall_const, cond_true, cond_false, decide_true, decide_false, true_imp_iff, implies_true, Int.cast_ofNat_Int, forall_eq']
  refine ⟨hgne, ?_⟩
  first | refine qCallK_ro (s2) ?_ ?_ | refine eCallK_ro (s2) ?_ ?_
  · simp only [↓EVP0, EVQ0, EVQ1, EVQ2, EVQ3, EVQ4, EVA, EVK, EVFR, ↓reduceIte, Nat.reduceEqDiff, Nat.reduceAdd, Nat.reduceSub, Nat.reduceMul, Nat.reduceLT, Nat.reduceLeDiff, reduceCtorEq, Int.reduceToNat, Int.reduceLT, Int.reduceLE, Int.reduceAdd, Int.reduceSub, Int.reduceMul, Int.reduceNeg, Int.reduceEq, Nat.reduceMod, forall_eq_or_imp, forall_eq, forall_const, cond_true, cond_false, decide_true, decide_false, true_imp_iff, implies_true, Int.cast_ofNat_Int, forall_eq']
  simp only [↓EVP0, EVQ0, EVQ1, EVQ2, EVQ3, EVQ4, EVA, EVK, EVFR, ↓reduceIte, Nat.reduceEqDiff, Nat.reduceAdd, Nat.reduceSub, Nat.reduceMul, Nat.reduceLT, Nat.reduceLeDiff, reduceCtorEq, Int.reduceToNat, Int.reduceLT, Int.reduceLE, Int.reduceAdd, Int.reduceSub, Int.reduceMul, Int.reduceNeg, Int.reduceEq, Nat.reduceMod, forall_eq_or_imp, forall_eq, forall_const, cond_true, cond_false, decide_true, decide_false, true_imp_iff, implies_true, Int.cast_ofNat_Int, forall_eq']
  refine ⟨hgne, ?_⟩
  rw [← Int.ofNat_tdiv, ← Int.ofNat_tdiv, cast_mod (by omega), cast_mod (by omega)]
  have p1 := ev_product A.n (mag B.d / Nat.gcd (mag A.d) (mag B.d)) oA.1 (by omega)
  have p2 := ev_product B.n (mag A.d / Nat.gcd (mag A.d) (mag B.d)) oB.1 (by omega)
  unfold wV at p1 p2
  first | refine qCallK_ro (p1) ?_ ?_ | refine eCallK_ro (p1) ?_ ?_
  · simp only [↓EVP0, EVQ0, EVQ1, EVQ2, EVQ3, EVQ4, EVA, EVK, EVFR, ↓reduceIte, Nat.reduceEqDiff, Nat.reduceAdd, Nat.reduceSub, Nat.reduceMul, Nat.reduceLT, Nat.reduceLeDiff, reduceCtorEq, Int.reduceToNat, Int.reduceLT, Int.reduceLE, Int.reduceAdd, Int.reduceSub, Int.reduceMul, Int.reduceNeg, Int.reduceEq, Nat.reduceMod, forall_eq_or_imp, forall_eq, forall_const, cond_true, cond_false, decide_true, decide_false, true_imp_iff, implies_true, Int.cast_ofNat_Int, forall_eq']
  simp only [↓EVP0, EVQ0, EVQ1, EVQ2, EVQ3, EVQ4, EVA, EVK, EVFR, ↓reduceIte, Nat.reduceEqDiff, Nat.reduceAdd, Nat.reduceSub, Nat.reduceMul, Nat.reduceLT, Nat.reduceLeDiff, reduceCtorEq, Int.reduceToNat, Int.reduceLT, Int.reduceLE, Int.reduceAdd, Int.reduceSub, Int.reduceMul, Int.reduceNeg, Int.reduceEq, Nat.reduceMod, forall_eq_or_imp, forall_eq, forall_const, cond_true, cond_false, decide_true, decide_false, true_imp_iff, implies_true, Int.cast_ofNat_Int, forall_eq']
  first | refine qCallK_ro (p2) ?_ ?_ | refine eCallK_ro (p2) ?_ ?_
  · simp only [↓EVP0, EVQ0, EVQ1, EVQ2, EVQ3, EVQ4, EVA, EVK, EVFR, ↓reduceIte, Nat.reduceEqDiff, Nat.reduceAdd, Nat.reduceSub, Nat.reduceMul, Nat.reduceLT, Nat.reduceLeDiff, reduceCtorEq, Int.reduceToNat, Int.reduceLT, Int.reduceLE, Int.reduceAdd, Int.reduceSub, Int.reduceMul, Int.reduceNeg, Int.reduceEq, Nat.reduceMod, forall_eq_or_imp, forall_eq, forall_const, cond_true, cond_false, decide_true, decide_false, true_imp_iff, implies_true, Int.cast_ofNat_Int, forall_eq']
  simp only [↓EVP0, EVQ0, EVQ1, EVQ2, EVQ3, EVQ4, EVA, EVK, EVFR, ↓reduceIte, Nat.reduceEqDiff, Nat.reduceAdd, Nat.reduceSub, Nat.reduceMul, Nat.reduceLT, Nat.reduceLeDiff, reduceCtorEq, Int.reduceToNat, Int.reduceLT, Int.reduceLE, Int.reduceAdd, Int.reduceSub, Int.reduceMul, Int.reduceNeg, Int.reduceEq, Nat.reduceMod, forall_eq_or_imp, forall_eq, forall_const, cond_true, cond_false, decide_true, decide_false, true_imp_iff, implies_true, Int.cast_ofNat_Int, forall_eq']
  have q1 := mul_small (mag_le oA.1) (Nat.le_trans ly lb)
  have q2 := mul_small (mag_le oB.1) (Nat.le_trans lx la)
  have w1 := ev_wadd (decide (A.n < 0)) (decide (B.n < 0)) (mag A.n * (mag B.d / Nat.gcd (mag A.d) (mag B.d))) (mag B.n * (mag A.d / Nat.gcd (mag A.d) (mag B.d))) (by omega)
  have hS := addW_sg (decide (A.n < 0)) (decide (B.n < 0)) (mag A.n * (mag B.d / Nat.gcd (mag A.d) (mag B.d))) (mag B.n * (mag A.d / Nat.gcd (mag A.d) (mag B.d)))
  rw [sg_prod, sg_prod] at hS
  unfold wV at w1
  first | refine qCallK_ro (w1) ?_ ?_ | refine eCallK_ro (w1) ?_ ?_
  · simp only [↓EVP0, EVQ0, EVQ1, EVQ2, EVQ3, EVQ4, EVA, EVK, EVFR, ↓reduceIte, Nat.reduceEqDiff, Nat.reduceAdd, Nat.reduceSub, Nat.reduceMul, Nat.reduceLT, Nat.reduceLeDiff, reduceCtorEq, Int.reduceToNat, Int.reduceLT, Int.reduceLE, Int.reduceAdd, Int.reduceSub, Int.reduceMul, Int.reduceNeg, Int.reduceEq, Nat.reduceMod, forall_eq_or_imp, forall_eq, forall_const, cond_true, cond_false, decide_true, decide_false, true_imp_iff, implies_true, Int.cast_ofNat_Int, forall_eq']
  simp only [↓EVP0, EVQ0, EVQ1, EVQ2, EVQ3, EVQ4, EVA, EVK, EVFR, ↓reduceIte, Nat.reduceEqDiff, Nat.reduceAdd, Nat.reduceSub, Nat.reduceMul, Nat.reduceLT, Nat.reduceLeDiff, reduceCtorEq, Int.reduceToNat, Int.reduceLT, Int.reduceLE, Int.reduceAdd, Int.reduceSub, Int.reduceMul, Int.reduceNeg, Int.reduceEq, Nat.reduceMod, forall_eq_or_imp, forall_eq, forall_const, cond_true, cond_false, decide_true, decide_false, true_imp_iff, implies_true, Int.cast_ofNat_Int, forall_eq']
  clear w1 p1 p2
  generalize hWd : addW (decide (A.n < 0)) (mag A.n * (mag B.d / Nat.gcd (mag A.d) (mag B.d))) (decide (B.n < 0)) (mag B.n * (mag A.d / Nat.gcd (mag A.d) (mag B.d))) = W at *
  have hWl := addW_le (decide (A.n < 0)) (decide (B.n < 0)) (mag A.n * (mag B.d / Nat.gcd (mag A.d) (mag B.d))) (mag B.n * (mag A.d / Nat.gcd (mag A.d) (mag B.d)))
  rw [hWd] at hWl
  have hW : W.2 < 340282366920938463463374607431768211456 := by
    have : W.2 ≤ mag A.n * (mag B.d / Nat.gcd (mag A.d) (mag B.d)) + mag B.n * (mag A.d / Nat.gcd (mag A.d) (mag B.d)) := hWl
    omega
  have e1 : (mag A.d : Int) = A.d := by have := hA.1; unfold mag; omega
  have e2 : (mag B.d : Int) = B.d := by have := hB.1; unfold mag; omega
  have hadd : addE A B = low (A.n * (mag B.d : Int) + B.n * (mag A.d : Int)) (mag A.d * mag B.d) := by rw [e1, e2]; rfl
  rw [k3] at hadd
  rw [← hS] at hadd k2
  obtain ⟨i1, i2⟩ := sg_inv (rfl : sg W.1 W.2 = _)
  rw [i1] at hadd k2
  refine ⟨fun gz => ?_, fun gz => ?_⟩
  · have hz : W.2 = 0 := by
      rw [condF] at gz
      simp only [Bool.and_eq_true, decide_eq_true_eq] at gz
      omega
    rw [hadd, hz, Nat.zero_div]
    exact ⟨⟨rfl, rfl⟩, rfl⟩
  have hW0 : 0 < W.2 := by
    rcases Nat.eq_zero_or_pos W.2 with h | h
    · rw [h] at gz; simp at gz
    · exact h
  rw [i2 hW0] at hadd
  have d1 := ev_divide W.1 W.2 (Nat.gcd (mag A.d) (mag B.d)) hW k1 (by have := Nat.le_of_dvd pa (Nat.gcd_dvd_left (mag A.d) (mag B.d)); omega)
  unfold wV at d1
  refine callK_ro (d1) ?_ ?_
  · simp only [↓EVP0, EVQ0, EVQ1, EVQ2, EVQ3, EVQ4, EVA, EVK, EVFR, ↓reduceIte, Nat.reduceEqDiff, Nat.reduceAdd, Nat.reduceSub, Nat.reduceMul, Nat.reduceLT, Nat.reduceLeDiff, reduceCtorEq, Int.reduceToNat, Int.reduceLT, Int.reduceLE, Int.reduceAdd, Int.reduceSub, Int.reduceMul, Int.reduceNeg, Int.reduceEq, Nat.reduceMod, forall_eq_or_imp, forall_eq, forall_const, cond_true, cond_false, decide_true, decide_false, true_imp_iff, implies_true, Int.cast_ofNat_Int, forall_eq']
  simp only [↓EVP0, EVQ0, EVQ1, EVQ2, EVQ3, EVQ4, EVA, EVK, EVFR, ↓reduceIte, Nat.reduceEqDiff, Nat.reduceAdd, Nat.reduceSub, Nat.reduceMul, Nat.reduceLT, Nat.reduceLeDiff, reduceCtorEq, Int.reduceToNat, Int.reduceLT, Int.reduceLE, Int.reduceAdd, Int.reduceSub, Int.reduceMul, Int.reduceNeg, Int.reduceEq, Nat.reduceMod, forall_eq_or_imp, forall_eq, forall_const, cond_true, cond_false, decide_true, decide_false, true_imp_iff, implies_true, Int.cast_ofNat_Int, forall_eq']
  have g2 := ev_gcd (Nat.gcd (mag A.d) (mag B.d)) (W.2 % Nat.gcd (mag A.d) (mag B.d))
  have eg : Nat.gcd (Nat.gcd (mag A.d) (mag B.d)) (W.2 % Nat.gcd (mag A.d) (mag B.d)) = Nat.gcd (Nat.gcd (mag A.d) (mag B.d)) W.2 := by
    rw [Nat.gcd_comm, Nat.gcd_comm _ W.2, Nat.gcd_comm W.2, ← Nat.gcd_rec]
  rw [eg] at g2
  refine callK_ro (g2) ?_ ?_
  · simp only [↓EVP0, EVQ0, EVQ1, EVQ2, EVQ3, EVQ4, EVA, EVK, EVFR, ↓reduceIte, Nat.reduceEqDiff, Nat.reduceAdd, Nat.reduceSub, Nat.reduceMul, Nat.reduceLT, Nat.reduceLeDiff, reduceCtorEq, Int.reduceToNat, Int.reduceLT, Int.reduceLE, Int.reduceAdd, Int.reduceSub, Int.reduceMul, Int.reduceNeg, Int.reduceEq, Nat.reduceMod, forall_eq_or_imp, forall_eq, forall_const, cond_true, cond_false, decide_true, decide_false, true_imp_iff, implies_true, Int.cast_ofNat_Int, forall_eq']
  simp only [↓EVP0, EVQ0, EVQ1, EVQ2, EVQ3, EVQ4, EVA, EVK, EVFR, ↓reduceIte, Nat.reduceEqDiff, Nat.reduceAdd, Nat.reduceSub, Nat.reduceMul, Nat.reduceLT, Nat.reduceLeDiff, reduceCtorEq, Int.reduceToNat, Int.reduceLT, Int.reduceLE, Int.reduceAdd, Int.reduceSub, Int.reduceMul, Int.reduceNeg, Int.reduceEq, Nat.reduceMod, forall_eq_or_imp, forall_eq, forall_const, cond_true, cond_false, decide_true, decide_false, true_imp_iff, implies_true, Int.cast_ofNat_Int, forall_eq']
  have hle : Nat.gcd (Nat.gcd (mag A.d) (mag B.d)) W.2 ≤ mag A.d := Nat.le_trans (Nat.le_of_dvd k1 (Nat.gcd_dvd_left _ _)) (Nat.le_of_dvd pa (Nat.gcd_dvd_left (mag A.d) (mag B.d)))
  generalize hcd : Nat.gcd (Nat.gcd (mag A.d) (mag B.d)) W.2 = c at *
  have d2 := ev_divide W.1 W.2 c hW k2 (by omega)
  unfold wV at d2
  refine callK_ro (d2) ?_ ?_
  · simp only [↓EVP0, EVQ0, EVQ1, EVQ2, EVQ3, EVQ4, EVA, EVK, EVFR, ↓reduceIte, Nat.reduceEqDiff, Nat.reduceAdd, Nat.reduceSub, Nat.reduceMul, Nat.reduceLT, Nat.reduceLeDiff, reduceCtorEq, Int.reduceToNat, Int.reduceLT, Int.reduceLE, Int.reduceAdd, Int.reduceSub, Int.reduceMul, Int.reduceNeg, Int.reduceEq, Nat.reduceMod, forall_eq_or_imp, forall_eq, forall_const, cond_true, cond_false, decide_true, decide_false, true_imp_iff, implies_true, Int.cast_ofNat_Int, forall_eq']
  simp only [↓EVP0, EVQ0, EVQ1, EVQ2, EVQ3, EVQ4, EVA, EVK, EVFR, ↓reduceIte, Nat.reduceEqDiff, Nat.reduceAdd, Nat.reduceSub, Nat.reduceMul, Nat.reduceLT, Nat.reduceLeDiff, reduceCtorEq, Int.reduceToNat, Int.reduceLT, Int.reduceLE, Int.reduceAdd, Int.reduceSub, Int.reduceMul, Int.reduceNeg, Int.reduceEq, Nat.reduceMod, forall_eq_or_imp, forall_eq, forall_const, cond_true, cond_false, decide_true, decide_false, true_imp_iff, implies_true, Int.cast_ofNat_Int, forall_eq']
  refine callK_ro (s2) ?_ ?_
  · simp only [↓EVP0, EVQ0, EVQ1, EVQ2, EVQ3, EVQ4, EVA, EVK, EVFR, ↓reduceIte, Nat.reduceEqDiff, Nat.reduceAdd, Nat.reduceSub, Nat.reduceMul, Nat.reduceLT, Nat.reduceLeDiff, reduceCtorEq, Int.reduceToNat, Int.reduceLT, Int.reduceLE, Int.reduceAdd, Int.reduceSub, Int.reduceMul, Int.reduceNeg, Int.reduceEq, Nat.reduceMod, forall_eq_or_imp, forall_eq, forall_const, cond_true, cond_false, decide_true, decide_false, true_imp_iff, implies_true, Int.cast_ofNat_Int, forall_eq']
  simp only [↓EVP0, EVQ0, EVQ1, EVQ2, EVQ3, EVQ4, EVA, EVK, EVFR, ↓reduceIte, Nat.reduceEqDiff, Nat.reduceAdd, Nat.reduceSub, Nat.reduceMul, Nat.reduceLT, Nat.reduceLeDiff, reduceCtorEq, Int.reduceToNat, Int.reduceLT, Int.reduceLE, Int.reduceAdd, Int.reduceSub, Int.reduceMul, Int.reduceNeg, Int.reduceEq, Nat.reduceMod, forall_eq_or_imp, forall_eq, forall_const, cond_true, cond_false, decide_true, decide_false, true_imp_iff, implies_true, Int.cast_ofNat_Int, forall_eq']
  refine ⟨by omega, ?_⟩
  rw [← Int.ofNat_tdiv, cast_mod (Nat.lt_of_le_of_lt (Nat.div_le_self _ _) (by omega))]
  have m1 := ev_mul64 (mag A.d / Nat.gcd (mag A.d) (mag B.d)) (mag B.d / c) (by omega) (Nat.lt_of_le_of_lt (Nat.div_le_self _ _) (by omega))
  refine callK_ro (m1) ?_ ?_
  · simp only [↓EVP0, EVQ0, EVQ1, EVQ2, EVQ3, EVQ4, EVA, EVK, EVFR, ↓reduceIte, Nat.reduceEqDiff, Nat.reduceAdd, Nat.reduceSub, Nat.reduceMul, Nat.reduceLT, Nat.reduceLeDiff, reduceCtorEq, Int.reduceToNat, Int.reduceLT, Int.reduceLE, Int.reduceAdd, Int.reduceSub, Int.reduceMul, Int.reduceNeg, Int.reduceEq, Nat.reduceMod, forall_eq_or_imp, forall_eq, forall_const, cond_true, cond_false, decide_true, decide_false, true_imp_iff, implies_true, Int.cast_ofNat_Int, forall_eq']
  simp only [↓EVP0, EVQ0, EVQ1, EVQ2, EVQ3, EVQ4, EVA, EVK, EVFR, ↓reduceIte, Nat.reduceEqDiff, Nat.reduceAdd, Nat.reduceSub, Nat.reduceMul, Nat.reduceLT, Nat.reduceLeDiff, reduceCtorEq, Int.reduceToNat, Int.reduceLT, Int.reduceLE, Int.reduceAdd, Int.reduceSub, Int.reduceMul, Int.reduceNeg, Int.reduceEq, Nat.reduceMod, forall_eq_or_imp, forall_eq, forall_const, cond_true, cond_false, decide_true, decide_false, true_imp_iff, implies_true, Int.cast_ofNat_Int, forall_eq']
  have r1 := ev_result W.1 (W.2 / c) (mag A.d / Nat.gcd (mag A.d) (mag B.d) * (mag B.d / c))
  unfold wV rrV ratV at r1
  rw [hadd]
  refine callK_ro (r1) ?_ ?_
  · simp only [↓EVP0, EVQ0, EVQ1, EVQ2, EVQ3, EVQ4, EVA, EVK, EVFR, ↓reduceIte, Nat.reduceEqDiff, Nat.reduceAdd, Nat.reduceSub, Nat.reduceMul, Nat.reduceLT, Nat.reduceLeDiff, reduceCtorEq, Int.reduceToNat, Int.reduceLT, Int.reduceLE, Int.reduceAdd, Int.reduceSub, Int.reduceMul, Int.reduceNeg, Int.reduceEq, Nat.reduceMod, forall_eq_or_imp, forall_eq, forall_const, cond_true, cond_false, decide_true, decide_false, true_imp_iff, implies_true, Int.cast_ofNat_Int, forall_eq']
  simp only [↓EVP0, EVQ0, EVQ1, EVQ2, EVQ3, EVQ4, EVA, EVK, EVFR, ↓reduceIte, Nat.reduceEqDiff, Nat.reduceAdd, Nat.reduceSub, Nat.reduceMul, Nat.reduceLT, Nat.reduceLeDiff, reduceCtorEq, Int.reduceToNat, Int.reduceLT, Int.reduceLE, Int.reduceAdd, Int.reduceSub, Int.reduceMul, Int.reduceNeg, Int.reduceEq, Nat.reduceMod, forall_eq_or_imp, forall_eq, forall_const, cond_true, cond_false, decide_true, decide_false, true_imp_iff, implies_true, Int.cast_ofNat_Int, forall_eq']
end Go.Proofs.YtdfiicpikcdokaaDoor
namespace Go.Proofs.YtdfiicpikcdokaaDoor
set_option linter.unusedSimpArgs false
set_option linter.unusedVariables false
open Go.RowKit
set_option maxRecDepth 20000

def negR (b : Rt) : Rt := ⟨0 - b.n, b.d⟩
def subR (a b : Rt) : Rt × Int := if vldR a = true ∧ vldR b = true then addR a (negR b) else (⟨0, 0⟩, 1)
theorem vld_bnd {b : Rt} (h : vldR b = true) : -1152921504606846976 ≤ b.n ∧ b.n ≤ 1152921504606846976 ∧ 0 ≤ b.d ∧ b.d ≤ 1152921504606846976 := by
  unfold vldR at h
  simp only [Bool.or_eq_true, Bool.and_eq_true, decide_eq_true_eq] at h
  omega
def divR (a b : Rt) : Rt × Int := if vldR a = true ∧ vldR b = true then (if b.n = 0 then (⟨0, 0⟩, 2) else if b.n < 0 then mulR a ⟨0 - b.d, 0 - b.n⟩ else mulR a ⟨b.d, b.n⟩) else (⟨0, 0⟩, 1)
end Go.Proofs.YtdfiicpikcdokaaDoor
namespace Go.Proofs.YtdfiicpikcdokaaDoor
set_option linter.unusedSimpArgs false
set_option linter.unusedVariables false
open Go.RowKit
set_option maxRecDepth 20000

def cmpI (x y : Int) : Int := if x < y then -1 else if x = y then 0 else 1
/-- Which of two numbers that have a denominator is the greater. -/
def cmpE (a b : Rt) : Int := cmpI (a.n * b.d) (b.n * a.d)
def cmpR (a b : Rt) : Int := if vldR a = true ∧ vldR b = true then cmpE (nrmR a) (nrmR b) else 0
theorem cmpN_I (m k : Nat) : cmpN m k = cmpI m k := by
  unfold cmpN cmpI
  by_cases h : m < k
  · rw [decide_eq_true h, if_pos (by omega)]; rfl
  · rw [decide_eq_false h, if_neg (by omega)]
    by_cases h2 : m = k
    · rw [decide_eq_true h2, if_pos (by omega)]; rfl
    · rw [decide_eq_false h2, if_neg (by omega)]; rfl
theorem sg_both {s t : Bool} {m k : Nat} (hs : s = true) (ht : t = true) : cmpI (sg s m) (sg t k) = cmpI k m := by
  subst hs ht
  unfold cmpI sg
  simp only [cond_true]
  rcases Nat.lt_trichotomy k m with h | h | h
  · rw [if_pos (by omega), if_pos (by omega)]
  · rw [if_neg (by omega), if_pos (by omega), if_neg (by omega), if_pos (by omega)]
  · rw [if_neg (by omega), if_neg (by omega), if_neg (by omega), if_neg (by omega)]
theorem ev_cmp (a b : Rt) (ha : RtOk a) (hb : RtOk b) : Ev Tryd.prog 15 [ratV a, ratV b] (.sc (.int .i64 (cmpR a b))) := by
  have v1 := ev_valid a ha
  have v2 := ev_valid b hb
  unfold ratV at *
  refine ev_fn Tryd.func15 comp15 (show 2 ≤ Tryd.f15.ntmps by decide) ?_; unfold cf15 rf15; simp only [↓EVP0, EVQ0, EVQ1, EVQ2, EVQ3, EVQ4, EVA, EVK, EVFR, ↓reduceIte, Nat.reduceEqDiff, Nat.reduceAdd, Nat.reduceSub, Nat.reduceMul, Nat.reduceLT, Nat.reduceLeDiff, reduceCtorEq, Int.reduceToNat, Int.reduceLT, Int.reduceLE, Int.reduceAdd, Int.reduceSub, Int.reduceMul, Int.reduceNeg, Int.reduceEq, Nat.reduceMod, forall_eq_or_imp, forall_eq, forall_const, cond_true, cond_false, decide_true, decide_false, true_imp_iff, implies_true, Int.cast_ofNat_Int, forall_eq']
  refine callK_ro (v1) ?_ ?_
  · simp only [↓EVP0, EVQ0, EVQ1, EVQ2, EVQ3, EVQ4, EVA, EVK, EVFR, ↓reduceIte, Nat.reduceEqDiff, Nat.reduceAdd, Nat.reduceSub, Nat.reduceMul, Nat.reduceLT, Nat.reduceLeDiff, reduceCtorEq, Int.reduceToNat, Int.reduceLT, Int.reduceLE, Int.reduceAdd, Int.reduceSub, Int.reduceMul, Int.reduceNeg, Int.reduceEq, Nat.reduceMod, forall_eq_or_imp, forall_eq, forall_const, cond_true, cond_false, decide_true, decide_false, true_imp_iff, implies_true, Int.cast_ofNat_Int, forall_eq']
  simp only [↓EVP0, EVQ0, EVQ1, EVQ2, EVQ3, EVQ4, EVA, EVK, EVFR, ↓reduceIte, Nat.reduceEqDiff, Nat.reduceAdd, Nat.reduceSub, Nat.reduceMul, Nat.reduceLT, Nat.reduceLeDiff, reduceCtorEq, Int.reduceToNat, Int.reduceLT, Int.reduceLE, Int.reduceAdd, Int.reduceSub, Int.reduceMul, Int.reduceNeg, Int.reduceEq, Nat.reduceMod, forall_eq_or_imp, forall_eq, forall_const, cond_true, cond_false, decide_true, decide_false, true_imp_iff, implies_true, Int.cast_ofNat_Int, forall_eq']
  (refine lops_ge_imp ?_; simp only [↓EVP0, EVQ0, EVQ1, EVQ2, EVQ3, EVQ4, EVA, EVK, EVFR, ↓reduceIte, Nat.reduceEqDiff, Nat.reduceAdd, Nat.reduceSub, Nat.reduceMul, Nat.reduceLT, Nat.reduceLeDiff, reduceCtorEq, Int.reduceToNat, Int.reduceLT, Int.reduceLE, Int.reduceAdd, Int.reduceSub, Int.reduceMul, Int.reduceNeg, Int.reduceEq, Nat.reduceMod, forall_eq_or_imp, forall_eq, forall_const, cond_true, cond_false, decide_true, decide_false, true_imp_iff, implies_true, Int.cast_ofNat_Int, forall_eq'])
  refine gCallK_ro _ (fun _ => v2) (fun _ => ?_) ?_
  · simp only [↓EVP0, EVQ0, EVQ1, EVQ2, EVQ3, EVQ4, EVA, EVK, EVFR, ↓reduceIte, Nat.reduceEqDiff, Nat.reduceAdd, Nat.reduceSub, Nat.reduceMul, Nat.reduceLT, Nat.reduceLeDiff, reduceCtorEq, Int.reduceToNat, Int.reduceLT, Int.reduceLE, Int.reduceAdd, Int.reduceSub, Int.reduceMul, Int.reduceNeg, Int.reduceEq, Nat.reduceMod, forall_eq_or_imp, forall_eq, forall_const, cond_true, cond_false, decide_true, decide_false, true_imp_iff, implies_true, Int.cast_ofNat_Int, forall_eq']
  simp only [↓EVP0, EVQ0, EVQ1, EVQ2, EVQ3, EVQ4, EVA, EVK, EVFR, ↓reduceIte, Nat.reduceEqDiff, Nat.reduceAdd, Nat.reduceSub, Nat.reduceMul, Nat.reduceLT, Nat.reduceLeDiff, reduceCtorEq, Int.reduceToNat, Int.reduceLT, Int.reduceLE, Int.reduceAdd, Int.reduceSub, Int.reduceMul, Int.reduceNeg, Int.reduceEq, Nat.reduceMod, forall_eq_or_imp, forall_eq, forall_const, cond_true, cond_false, decide_true, decide_false, true_imp_iff, implies_true, Int.cast_ofNat_Int, forall_eq']
  rw [nv_cond]
  unfold cmpR
  refine ⟨fun g => ?_, fun g => ?_⟩
  · rw [if_neg (by intro h8; rw [decide_eq_true h8] at g; simp at g)]
  have hv : vldR a = true ∧ vldR b = true := by simpa using g
  rw [if_pos hv]
  have n1 := ev_normal a
  have n2 := ev_normal b
  unfold ratV at n1 n2
  first | refine qCallK_ro (n1) ?_ ?_ | refine eCallK_ro (n1) ?_ ?_
  · simp only [↓EVP0, EVQ0, EVQ1, EVQ2, EVQ3, EVQ4, EVA, EVK, EVFR, ↓reduceIte, Nat.reduceEqDiff, Nat.reduceAdd, Nat.reduceSub, Nat.reduceMul, Nat.reduceLT, Nat.reduceLeDiff, reduceCtorEq, Int.reduceToNat, Int.reduceLT, Int.reduceLE, Int.reduceAdd, Int.reduceSub, Int.reduceMul, Int.reduceNeg, Int.reduceEq, Nat.reduceMod, forall_eq_or_imp, forall_eq, forall_const, cond_true, cond_false, decide_true, decide_false, true_imp_iff, implies_true, Int.cast_ofNat_Int, forall_eq']
  simp only [↓EVP0, EVQ0, EVQ1, EVQ2, EVQ3, EVQ4, EVA, EVK, EVFR, ↓reduceIte, Nat.reduceEqDiff, Nat.reduceAdd, Nat.reduceSub, Nat.reduceMul, Nat.reduceLT, Nat.reduceLeDiff, reduceCtorEq, Int.reduceToNat, Int.reduceLT, Int.reduceLE, Int.reduceAdd, Int.reduceSub, Int.reduceMul, Int.reduceNeg, Int.reduceEq, Nat.reduceMod, forall_eq_or_imp, forall_eq, forall_const, cond_true, cond_false, decide_true, decide_false, true_imp_iff, implies_true, Int.cast_ofNat_Int, forall_eq']
  first | refine qCallK_ro (n2) ?_ ?_ | refine eCallK_ro (n2) ?_ ?_
  · simp only [↓EVP0, EVQ0, EVQ1, EVQ2, EVQ3, EVQ4, EVA, EVK, EVFR, ↓reduceIte, Nat.reduceEqDiff, Nat.reduceAdd, Nat.reduceSub, Nat.reduceMul, Nat.reduceLT, Nat.reduceLeDiff, reduceCtorEq, Int.reduceToNat, Int.reduceLT, Int.reduceLE, Int.reduceAdd, Int.reduceSub, Int.reduceMul, Int.reduceNeg, Int.reduceEq, Nat.reduceMod, forall_eq_or_imp, forall_eq, forall_const, cond_true, cond_false, decide_true, decide_false, true_imp_iff, implies_true, Int.cast_ofNat_Int, forall_eq']
  simp only [↓EVP0, EVQ0, EVQ1, EVQ2, EVQ3, EVQ4, EVA, EVK, EVFR, ↓reduceIte, Nat.reduceEqDiff, Nat.reduceAdd, Nat.reduceSub, Nat.reduceMul, Nat.reduceLT, Nat.reduceLeDiff, reduceCtorEq, Int.reduceToNat, Int.reduceLT, Int.reduceLE, Int.reduceAdd, Int.reduceSub, Int.reduceMul, Int.reduceNeg, Int.reduceEq, Nat.reduceMod, forall_eq_or_imp, forall_eq, forall_const, cond_true, cond_false, decide_true, decide_false, true_imp_iff, implies_true, Int.cast_ofNat_Int, forall_eq']
  have hA := vld_low hv.1
  have hB := vld_low hv.2
  have oA := nrm_ok ha
  have oB := nrm_ok hb
  generalize nrmR a = A at *
  generalize nrmR b = B at *
  have l1 := mag_le oA.1
  have l2 := mag_le oA.2
  have l3 := mag_le oB.1
  have l4 := mag_le oB.2
  have s2 := ev_size A.d oA.2
  have s4 := ev_size B.d oB.2
  have p1 := ev_product A.n (mag B.d) oA.1 (by omega)
  have p2 := ev_product B.n (mag A.d) oB.1 (by omega)
  have w1 := ev_wcmp (decide (A.n < 0)) (decide (B.n < 0)) (mag A.n * mag B.d) (mag B.n * mag A.d)
  have w2 := ev_wcmp (decide (B.n < 0)) (decide (A.n < 0)) (mag B.n * mag A.d) (mag A.n * mag B.d)
  unfold wV at p1 p2 w1 w2
  first | refine qCallK_ro (s4) ?_ ?_ | refine eCallK_ro (s4) ?_ ?_
  · simp only [↓EVP0, EVQ0, EVQ1, EVQ2, EVQ3, EVQ4, EVA, EVK, EVFR, ↓reduceIte, Nat.reduceEqDiff, Nat.reduceAdd, Nat.reduceSub, Nat.reduceMul, Nat.reduceLT, Nat.reduceLeDiff, reduceCtorEq, Int.reduceToNat, Int.reduceLT, Int.reduceLE, Int.reduceAdd, Int.reduceSub, Int.reduceMul, Int.reduceNeg, Int.reduceEq, Nat.reduceMod, forall_eq_or_imp, forall_eq, forall_const, cond_true, cond_false, decide_true, decide_false, true_imp_iff, implies_true, Int.cast_ofNat_Int, forall_eq']
  simp only [↓EVP0, EVQ0, EVQ1, EVQ2, EVQ3, EVQ4, EVA, EVK, EVFR, ↓reduceIte, Nat.reduceEqDiff, Nat.reduceAdd, Nat.reduceSub, Nat.reduceMul, Nat.reduceLT, Nat.reduceLeDiff, reduceCtorEq, Int.reduceToNat, Int.reduceLT, Int.reduceLE, Int.reduceAdd, Int.reduceSub, Int.reduceMul, Int.reduceNeg, Int.reduceEq, Nat.reduceMod, forall_eq_or_imp, forall_eq, forall_const, cond_true, cond_false, decide_true, decide_false, true_imp_iff, implies_true, Int.cast_ofNat_Int, forall_eq']
  first | refine qCallK_ro (p1) ?_ ?_ | refine eCallK_ro (p1) ?_ ?_
  · simp only [↓EVP0, EVQ0, EVQ1, EVQ2, EVQ3, EVQ4, EVA, EVK, EVFR, ↓reduceIte, Nat.reduceEqDiff, Nat.reduceAdd, Nat.reduceSub, Nat.reduceMul, Nat.reduceLT, Nat.reduceLeDiff, reduceCtorEq, Int.reduceToNat, Int.reduceLT, Int.reduceLE, Int.reduceAdd, Int.reduceSub, Int.reduceMul, Int.reduceNeg, Int.reduceEq, Nat.reduceMod, forall_eq_or_imp, forall_eq, forall_const, cond_true, cond_false, decide_true, decide_false, true_imp_iff, implies_true, Int.cast_ofNat_Int, forall_eq']
  simp only [↓EVP0, EVQ0, EVQ1, EVQ2, EVQ3, EVQ4, EVA, EVK, EVFR, ↓reduceIte, Nat.reduceEqDiff, Nat.reduceAdd, Nat.reduceSub, Nat.reduceMul, Nat.reduceLT, Nat.reduceLeDiff, reduceCtorEq, Int.reduceToNat, Int.reduceLT, Int.reduceLE, Int.reduceAdd, Int.reduceSub, Int.reduceMul, Int.reduceNeg, Int.reduceEq, Nat.reduceMod, forall_eq_or_imp, forall_eq, forall_const, cond_true, cond_false, decide_true, decide_false, true_imp_iff, implies_true, Int.cast_ofNat_Int, forall_eq']
  first | refine qCallK_ro (s2) ?_ ?_ | refine eCallK_ro (s2) ?_ ?_
  · simp only [↓EVP0, EVQ0, EVQ1, EVQ2, EVQ3, EVQ4, EVA, EVK, EVFR, ↓reduceIte, Nat.reduceEqDiff, Nat.reduceAdd, Nat.reduceSub, Nat.reduceMul, Nat.reduceLT, Nat.reduceLeDiff, reduceCtorEq, Int.reduceToNat, Int.reduceLT, Int.reduceLE, Int.reduceAdd, Int.reduceSub, Int.reduceMul, Int.reduceNeg, Int.reduceEq, Nat.reduceMod, forall_eq_or_imp, forall_eq, forall_const, cond_true, cond_false, decide_true, decide_false, true_imp_iff, implies_true, Int.cast_ofNat_Int, forall_eq']
  simp only [↓EVP0, EVQ0, EVQ1, EVQ2, EVQ3, EVQ4, EVA, EVK, EVFR, ↓reduceIte, Nat.reduceEqDiff, Nat.reduceAdd, Nat.reduceSub, Nat.reduceMul, Nat.reduceLT, Nat.reduceLeDiff, reduceCtorEq, Int.reduceToNat, Int.reduceLT, Int.reduceLE, Int.reduceAdd, Int.reduceSub, Int.reduceMul, Int.reduceNeg, Int.reduceEq, Nat.reduceMod, forall_eq_or_imp, forall_eq, forall_const, cond_true, cond_false, decide_true, decide_false, true_imp_iff, implies_true, Int.cast_ofNat_Int, forall_eq']
  first | refine qCallK_ro (p2) ?_ ?_ | refine eCallK_ro (p2) ?_ ?_
  · simp only [↓EVP0, EVQ0, EVQ1, EVQ2, EVQ3, EVQ4, EVA, EVK, EVFR, ↓reduceIte, Nat.reduceEqDiff, Nat.reduceAdd, Nat.reduceSub, Nat.reduceMul, Nat.reduceLT, Nat.reduceLeDiff, reduceCtorEq, Int.reduceToNat, Int.reduceLT, Int.reduceLE, Int.reduceAdd, Int.reduceSub, Int.reduceMul, Int.reduceNeg, Int.reduceEq, Nat.reduceMod, forall_eq_or_imp, forall_eq, forall_const, cond_true, cond_false, decide_true, decide_false, true_imp_iff, implies_true, Int.cast_ofNat_Int, forall_eq']
  simp only [↓EVP0, EVQ0, EVQ1, EVQ2, EVQ3, EVQ4, EVA, EVK, EVFR, ↓reduceIte, Nat.reduceEqDiff, Nat.reduceAdd, Nat.reduceSub, Nat.reduceMul, Nat.reduceLT, Nat.reduceLeDiff, reduceCtorEq, Int.reduceToNat, Int.reduceLT, Int.reduceLE, Int.reduceAdd, Int.reduceSub, Int.reduceMul, Int.reduceNeg, Int.reduceEq, Nat.reduceMod, forall_eq_or_imp, forall_eq, forall_const, cond_true, cond_false, decide_true, decide_false, true_imp_iff, implies_true, Int.cast_ofNat_Int, forall_eq']
  have e1 : A.n * B.d = sg (decide (A.n < 0)) (mag A.n * mag B.d) := by rw [sg_prod]; have := hB.1; unfold mag; congr 1; omega
  have e2 : B.n * A.d = sg (decide (B.n < 0)) (mag B.n * mag A.d) := by rw [sg_prod]; have := hA.1; unfold mag; congr 1; omega
  have z1 : A.n < 0 → 0 < mag A.n * mag B.d := fun h => Nat.mul_pos (by unfold mag; omega) (by have := hB.1; unfold mag; omega)
  have z2 : B.n < 0 → 0 < mag B.n * mag A.d := fun h => Nat.mul_pos (by unfold mag; omega) (by have := hA.1; unfold mag; omega)
  have ec : cmpE A B = cmpI (sg (decide (A.n < 0)) (mag A.n * mag B.d)) (sg (decide (B.n < 0)) (mag B.n * mag A.d)) := by unfold cmpE; rw [e1, e2]
  rw [ec]
  clear ec e1 e2 p1 p2 s2 s4 n1 n2 v1 v2
  generalize mag A.n * mag B.d = m at *
  generalize mag B.n * mag A.d = k at *
  rw [cmpN_I] at w1 w2
  refine ⟨?_, ?_⟩
  all_goals
    rw [condF]
    refine ⟨fun h1 => ?_, fun h1 => ⟨fun h2 => ?_, fun h2 => ⟨fun h3 => ?_, fun h3 => ?_⟩⟩⟩
    · simp only [Bool.and_eq_true] at h1
      have q := sg_both h1.1 h1.2 (m := m) (k := k)
      rw [q]
      refine callK_ro (w2) ?_ ?_
      · simp only [↓EVP0, EVQ0, EVQ1, EVQ2, EVQ3, EVQ4, EVA, EVK, EVFR, ↓reduceIte, Nat.reduceEqDiff, Nat.reduceAdd, Nat.reduceSub, Nat.reduceMul, Nat.reduceLT, Nat.reduceLeDiff, reduceCtorEq, Int.reduceToNat, Int.reduceLT, Int.reduceLE, Int.reduceAdd, Int.reduceSub, Int.reduceMul, Int.reduceNeg, Int.reduceEq, Nat.reduceMod, forall_eq_or_imp, forall_eq, forall_const, cond_true, cond_false, decide_true, decide_false, true_imp_iff, implies_true, Int.cast_ofNat_Int, forall_eq']
      simp only [↓EVP0, EVQ0, EVQ1, EVQ2, EVQ3, EVQ4, EVA, EVK, EVFR, ↓reduceIte, Nat.reduceEqDiff, Nat.reduceAdd, Nat.reduceSub, Nat.reduceMul, Nat.reduceLT, Nat.reduceLeDiff, reduceCtorEq, Int.reduceToNat, Int.reduceLT, Int.reduceLE, Int.reduceAdd, Int.reduceSub, Int.reduceMul, Int.reduceNeg, Int.reduceEq, Nat.reduceMod, forall_eq_or_imp, forall_eq, forall_const, cond_true, cond_false, decide_true, decide_false, true_imp_iff, implies_true, Int.cast_ofNat_Int, forall_eq']
    · have h4 : decide (B.n < 0) = false := by rw [h2] at h1; simpa using h1
      rw [h2, h4]
      have := z1 (of_decide_eq_true h2)
      unfold cmpI sg
      simp only [cond_true, cond_false]
      rw [if_pos (by omega)]
    · rw [h2, h3]
      have := z2 (of_decide_eq_true h3)
      unfold cmpI sg
      simp only [cond_true, cond_false]
      rw [if_neg (by omega), if_neg (by omega)]
    · have q : cmpI (sg (decide (A.n < 0)) m) (sg (decide (B.n < 0)) k) = cmpI m k := by rw [h2, h3]; rfl
      rw [q]
      refine callK_ro (w1) ?_ ?_
      · simp only [↓EVP0, EVQ0, EVQ1, EVQ2, EVQ3, EVQ4, EVA, EVK, EVFR, ↓reduceIte, Nat.reduceEqDiff, Nat.reduceAdd, Nat.reduceSub, Nat.reduceMul, Nat.reduceLT, Nat.reduceLeDiff, reduceCtorEq, Int.reduceToNat, Int.reduceLT, Int.reduceLE, Int.reduceAdd, Int.reduceSub, Int.reduceMul, Int.reduceNeg, Int.reduceEq, Nat.reduceMod, forall_eq_or_imp, forall_eq, forall_const, cond_true, cond_false, decide_true, decide_false, true_imp_iff, implies_true, Int.cast_ofNat_Int, forall_eq']
      simp only [↓EVP0, EVQ0, EVQ1, EVQ2, EVQ3, EVQ4, EVA, EVK, EVFR, ↓reduceIte, Nat.reduceEqDiff, Nat.reduceAdd, Nat.reduceSub, Nat.reduceMul, Nat.reduceLT, Nat.reduceLeDiff, reduceCtorEq, Int.reduceToNat, Int.reduceLT, Int.reduceLE, Int.reduceAdd, Int.reduceSub, Int.reduceMul, Int.reduceNeg, Int.reduceEq, Nat.reduceMod, forall_eq_or_imp, forall_eq, forall_const, cond_true, cond_false, decide_true, decide_false, true_imp_iff, implies_true, Int.cast_ofNat_Int, forall_eq']
/-- The greatest integer that is at most a number. -/
theorem floor_facts {A : Rt} (a : Low A) : -1152921504606846976 ≤ A.n / A.d ∧ A.n / A.d ≤ 1152921504606846976 ∧ A.n / A.d * A.d ≤ A.n ∧ A.n < (A.n / A.d + 1) * A.d := by
  obtain ⟨h1, h2, h3, h4, _⟩ := a
  have hp : 0 < A.d := by omega
  refine ⟨?_, ?_, Int.ediv_mul_le _ (by omega), ?_⟩
  · rw [Int.le_ediv_iff_mul_le hp]
    have := Int.mul_le_mul_of_nonneg_left h1 (show (0:Int) ≤ 1152921504606846976 by decide)
    omega
  · have : A.n / A.d < 1152921504606846976 + 1 := by
      rw [Int.ediv_lt_iff_lt_mul hp]
      have := Int.mul_le_mul_of_nonneg_left h1 (show (0:Int) ≤ 1152921504606846976 + 1 by decide)
      omega
    omega
  · have := Int.lt_mul_ediv_self_add (x := A.n) hp
    rw [Int.add_mul, Int.one_mul, Int.mul_comm]; exact this
theorem tdiv_floor {n d : Int} (hd : 1 ≤ d) : n / d = if n.tmod d < 0 then n.tdiv d - 1 else n.tdiv d := by
  have h := Int.tdiv_eq_ediv (a := n) (b := d)
  have hs : d.sign = 1 := Int.sign_eq_one_of_pos (by omega)
  rw [hs] at h
  have hm := Int.mul_tdiv_add_tmod n d
  have he := Int.mul_ediv_add_emod n d
  have h0 := Int.emod_nonneg n (show d ≠ 0 by omega)
  have h1 := Int.emod_lt_of_pos n (show 0 < d by omega)
  rw [h] at hm ⊢
  split at hm
  · rename_i hc
    rw [if_pos hc]
    rw [Int.add_zero] at hm ⊢
    rw [if_neg (by omega)]
  · rename_i hc
    rw [if_neg hc]
    rw [Int.mul_add, Int.mul_one] at hm
    rw [if_pos (by omega)]
    omega
def flr (a : Rt) : Int := if vldR a = true then (nrmR a).n / (nrmR a).d else 0
def sumR : List Rt → Rt → Rt × Int
  | [], s => (s, 0)
  | r :: l, s => if (addR s r).2 = 0 then sumR l (addR s r).1 else (⟨0, 0⟩, (addR s r).2)
theorem addR_okRt (a b : Rt) : RtOk (addR a b).1 := by
  unfold addR
  split
  · rcases low_ok (x := (nrmR a).n * (nrmR b).d + (nrmR b).n * (nrmR a).d) (y := (nrmR a).d.natAbs * (nrmR b).d.natAbs) (Nat.mul_pos (by rename_i h; have := (vld_low h.1).1; omega) (by rename_i h; have := (vld_low h.2).1; omega)) with ⟨_, h, _⟩ | h
    · unfold Low at h; unfold RtOk In64 addE; omega
    · unfold addE; rw [h]; unfold RtOk In64; simp
  · unfold RtOk In64; simp
end Go.Proofs.YtdfiicpikcdokaaDoor
namespace Go.Proofs.YtdfiicpikcdokaaDoor
set_option linter.unusedSimpArgs false
set_option linter.unusedVariables false
open Go.RowKit
set_option linter.unusedVariables false

theorem abs_d {S : Rt} (h : 1 ≤ S.d) : ((S.d.natAbs : Nat) : Int) = S.d := by omega
/-- A sum of two fractions that are not in lowest terms. -/
theorem addE_rr {S T : Rt} {X Z : Int} {Y W : Nat} (hS : 1 ≤ S.d) (hT : 1 ≤ T.d) (hY : 0 < Y) (hW : 0 < W) (h : S.n * Y = X * S.d) (k : T.n * W = Z * T.d) : addE S T = low (X * W + Z * Y) (Y * W) := by
  unfold addE
  refine low_congr (Nat.mul_pos (by omega) (by omega)) (Nat.mul_pos hY hW) ?_
  simp only [Int.natCast_mul]
  rw [abs_d hS, abs_d hT]
  generalize (Y : Int) = y at *
  generalize (W : Int) = w at *
  grind
theorem mulE_rr {S T : Rt} {X Z : Int} {Y W : Nat} (hS : 1 ≤ S.d) (hT : 1 ≤ T.d) (hY : 0 < Y) (hW : 0 < W) (h : S.n * Y = X * S.d) (k : T.n * W = Z * T.d) : mulE S T = low (X * Z) (Y * W) := by
  unfold mulE
  refine low_congr (Nat.mul_pos (by omega) (by omega)) (Nat.mul_pos hY hW) ?_
  simp only [Int.natCast_mul]
  rw [abs_d hS, abs_d hT]
  generalize (Y : Int) = y at *
  generalize (W : Int) = w at *
  grind
theorem self_fr (S : Rt) (h : 1 ≤ S.d) : S.n * (S.d.natAbs : Nat) = S.n * S.d := by rw [abs_d h]
theorem low_fr {x : Int} {y : Nat} (hy : 0 < y) (h : (low x y).2 = 0) : Low (low x y).1 ∧ (low x y).1.n * y = x * (low x y).1.d := by
  rcases low_ok (x := x) hy with ⟨_, h2, h3⟩ | h2
  · exact ⟨h2, h3⟩
  · rw [h2] at h; simp at h
theorem pos2 {A B : Rt} (a : Low A) (b : Low B) : 0 < A.d.natAbs * B.d.natAbs := Nat.mul_pos (by have := a.1; omega) (by have := b.1; omega)
theorem pos1 {A : Rt} (a : Low A) : 0 < A.d.natAbs := by have := a.1; omega
theorem addE_fr {A B : Rt} (a : Low A) (b : Low B) (h : (addE A B).2 = 0) : Low (addE A B).1 ∧ (addE A B).1.n * ((A.d.natAbs * B.d.natAbs : Nat) : Int) = (A.n * B.d + B.n * A.d) * (addE A B).1.d := low_fr (pos2 a b) h
theorem mulE_fr {A B : Rt} (a : Low A) (b : Low B) (h : (mulE A B).2 = 0) : Low (mulE A B).1 ∧ (mulE A B).1.n * ((A.d.natAbs * B.d.natAbs : Nat) : Int) = (A.n * B.n) * (mulE A B).1.d := low_fr (pos2 a b) h
theorem addE_comm (A B : Rt) : addE A B = addE B A := by unfold addE; rw [Int.add_comm, Nat.mul_comm]
theorem mulE_comm (A B : Rt) : mulE A B = mulE B A := by unfold mulE; rw [Int.mul_comm, Nat.mul_comm]
theorem addE_assoc {A B C : Rt} (a : Low A) (b : Low B) (c : Low C) (h : (addE A B).2 = 0) (k : (addE B C).2 = 0) : addE (addE A B).1 C = addE A (addE B C).1 := by
  obtain ⟨h1, h2⟩ := addE_fr a b h
  obtain ⟨k1, k2⟩ := addE_fr b c k
  rw [addE_rr h1.1 c.1 (pos2 a b) (pos1 c) h2 (self_fr C c.1), addE_rr a.1 k1.1 (pos1 a) (pos2 b c) (self_fr A a.1) k2]
  rw [Nat.mul_assoc]
  congr 1
  simp only [Int.natCast_mul]
  rw [abs_d a.1, abs_d b.1, abs_d c.1]
  grind
theorem mulE_assoc {A B C : Rt} (a : Low A) (b : Low B) (c : Low C) (h : (mulE A B).2 = 0) (k : (mulE B C).2 = 0) : mulE (mulE A B).1 C = mulE A (mulE B C).1 := by
  obtain ⟨h1, h2⟩ := mulE_fr a b h
  obtain ⟨k1, k2⟩ := mulE_fr b c k
  rw [mulE_rr h1.1 c.1 (pos2 a b) (pos1 c) h2 (self_fr C c.1), mulE_rr a.1 k1.1 (pos1 a) (pos2 b c) (self_fr A a.1) k2]
  rw [Nat.mul_assoc, Int.mul_assoc]
theorem mulE_addE {A B C : Rt} (a : Low A) (b : Low B) (c : Low C) (h : (addE B C).2 = 0) (k : (mulE A B).2 = 0) (l : (mulE A C).2 = 0) : mulE A (addE B C).1 = addE (mulE A B).1 (mulE A C).1 := by
  obtain ⟨h1, h2⟩ := addE_fr b c h
  obtain ⟨k1, k2⟩ := mulE_fr a b k
  obtain ⟨l1, l2⟩ := mulE_fr a c l
  rw [mulE_rr a.1 h1.1 (pos1 a) (pos2 b c) (self_fr A a.1) h2, addE_rr k1.1 l1.1 (pos2 a b) (pos2 a c) k2 l2]
  refine low_congr (Nat.mul_pos (pos1 a) (pos2 b c)) (Nat.mul_pos (pos2 a b) (pos2 a c)) ?_
  simp only [Int.natCast_mul]
  rw [abs_d a.1, abs_d b.1, abs_d c.1]
  grind
theorem negR_low {B : Rt} (b : Low B) : Low (negR B) := by
  unfold negR Low at *
  simp only
  refine ⟨b.1, b.2.1, by omega, by omega, ?_⟩
  have : (0 - B.n).natAbs = B.n.natAbs := by omega
  rw [this]; exact b.2.2.2.2
theorem addE_sub {A B : Rt} (a : Low A) (b : Low B) (h : (addE A B).2 = 0) : addE (addE A B).1 (negR B) = (A, 0) := by
  obtain ⟨h1, h2⟩ := addE_fr a b h
  rw [addE_rr h1.1 (negR_low b).1 (pos2 a b) (pos1 b) h2 (self_fr (negR B) b.1), ← low_self a]
  refine low_congr (Nat.mul_pos (pos2 a b) (pos1 b)) (pos1 a) ?_
  simp only [Int.natCast_mul, negR]
  rw [abs_d a.1, abs_d b.1]
  grind
/-- The inverse of a number other than 0. -/
def invR (b : Rt) : Rt := if b.n < 0 then ⟨0 - b.d, 0 - b.n⟩ else ⟨b.d, b.n⟩
theorem invR_low {B : Rt} (b : Low B) (h : B.n ≠ 0) : Low (invR B) ∧ (invR B).n * B.n = B.d * (invR B).d := by
  obtain ⟨b1, b2, b3, b4, b5⟩ := b
  unfold invR
  have b6 : Nat.Coprime B.d.natAbs B.n.natAbs := b5.symm
  split
  · refine ⟨⟨by simp only; omega, by simp only; omega, by simp only; omega, by simp only; omega, ?_⟩, by simp only; grind⟩
    simp only
    rw [show (0 - B.d).natAbs = B.d.natAbs by omega, show (0 - B.n).natAbs = B.n.natAbs by omega]; exact b6
  · exact ⟨⟨by simp only; omega, by simp only; omega, by simp only; omega, by simp only; omega, b6⟩, rfl⟩
theorem mulE_div {A B : Rt} (a : Low A) (b : Low B) (h0 : B.n ≠ 0) (h : (mulE A B).2 = 0) : mulE (mulE A B).1 (invR B) = (A, 0) := by
  obtain ⟨h1, h2⟩ := mulE_fr a b h
  obtain ⟨i1, i2⟩ := invR_low b h0
  rw [mulE_rr h1.1 i1.1 (pos2 a b) (pos1 i1) h2 (self_fr (invR B) i1.1), ← low_self a]
  refine low_congr (Nat.mul_pos (pos2 a b) (pos1 i1)) (pos1 a) ?_
  simp only [Int.natCast_mul]
  rw [abs_d a.1, abs_d b.1, abs_d i1.1]
  generalize (invR B).n = x at *
  generalize (invR B).d = y at *
  grind

theorem cmpI_self (x : Int) : cmpI x x = 0 := by unfold cmpI; rw [if_neg (by omega), if_pos rfl]
theorem cmpI_sub (x y : Int) : cmpI x y = cmpI (x - y) 0 := by
  unfold cmpI
  rcases Int.lt_trichotomy x y with h | h | h
  · rw [if_pos (by omega), if_pos (by omega)]
  · rw [if_neg (by omega), if_pos (by omega), if_neg (by omega), if_pos (by omega)]
  · rw [if_neg (by omega), if_neg (by omega), if_neg (by omega), if_neg (by omega)]
theorem cmpI_pos {k z : Int} (hk : 0 < k) : cmpI (k * z) 0 = cmpI z 0 := by
  unfold cmpI
  rcases Int.lt_trichotomy z 0 with h | h | h
  · have := Int.mul_neg_of_pos_of_neg hk h
    rw [if_pos this, if_pos h]
  · subst h; simp
  · have := Int.mul_pos hk h
    rw [if_neg (by omega), if_neg (by omega), if_neg (by omega), if_neg (by omega)]
theorem cmpI_neg (x y : Int) : cmpI x y = 0 - cmpI y x := by
  unfold cmpI
  rcases Int.lt_trichotomy x y with h | h | h
  · rw [if_pos (by omega), if_neg (by omega), if_neg (by omega)]; rfl
  · rw [if_neg (by omega), if_pos (by omega), if_neg (by omega), if_pos (by omega)]; rfl
  · rw [if_neg (by omega), if_neg (by omega), if_pos (by omega)]; rfl
theorem cmpI_le {x y : Int} : cmpI x y ≤ 0 ↔ x ≤ y := by
  unfold cmpI
  split
  · constructor <;> intros <;> omega
  · split <;> constructor <;> intros <;> omega
theorem cmpI_lt {x y : Int} : cmpI x y < 0 ↔ x < y := by
  unfold cmpI
  split
  · constructor <;> intros <;> omega
  · split <;> constructor <;> intros <;> omega
theorem cmpI_m {x y : Int} : cmpI x y = -1 ↔ x < y := by
  unfold cmpI
  split
  · constructor <;> intros <;> omega
  · split <;> constructor <;> intros <;> omega
theorem cmpI_bnd (x y : Int) : -1 ≤ cmpI x y ∧ cmpI x y ≤ 1 := by
  unfold cmpI
  split
  · omega
  · split <;> omega
theorem cmpE_trans {A B C : Rt} (a : Low A) (b : Low B) (c : Low C) (h : cmpE A B ≤ 0) (k : cmpE B C ≤ 0) : cmpE A C ≤ 0 := by
  unfold cmpE at *
  rw [cmpI_le] at *
  have h1 := Int.mul_le_mul_of_nonneg_right h (show 0 ≤ C.d by have := c.1; omega)
  have h2 := Int.mul_le_mul_of_nonneg_right k (show 0 ≤ A.d by have := a.1; omega)
  refine Int.le_of_mul_le_mul_right (a := B.d) ?_ (by have := b.1; omega)
  have e1 : A.n * B.d * C.d = A.n * C.d * B.d := by grind
  have e2 : B.n * A.d * C.d = B.n * C.d * A.d := by grind
  have e3 : C.n * B.d * A.d = C.n * A.d * B.d := by grind
  omega
theorem cmpE_trans2 {A B C : Rt} (a : Low A) (b : Low B) (c : Low C) (h : cmpE A B < 0) (k : cmpE B C ≤ 0) : cmpE A C = -1 := by
  unfold cmpE at *
  rw [cmpI_le] at k
  rw [cmpI_lt] at h
  rw [cmpI_m]
  have h1 := Int.mul_lt_mul_of_pos_right h (show 0 < C.d by have := c.1; omega)
  have h2 := Int.mul_le_mul_of_nonneg_right k (show 0 ≤ A.d by have := a.1; omega)
  refine Int.lt_of_mul_lt_mul_right (a := B.d) ?_ (by have := b.1; omega)
  have e1 : A.n * B.d * C.d = A.n * C.d * B.d := by grind
  have e2 : B.n * A.d * C.d = B.n * C.d * A.d := by grind
  have e3 : C.n * B.d * A.d = C.n * A.d * B.d := by grind
  omega
theorem cmpE_add {A B C : Rt} (a : Low A) (b : Low B) (c : Low C) (h : (addE A C).2 = 0) (k : (addE B C).2 = 0) : cmpE (addE A C).1 (addE B C).1 = cmpE A B := by
  obtain ⟨h1, h2⟩ := addE_fr a c h
  obtain ⟨k1, k2⟩ := addE_fr b c k
  unfold cmpE
  generalize (addE A C).1 = X at *
  generalize (addE B C).1 = Y at *
  simp only [Int.natCast_mul] at h2 k2
  rw [abs_d a.1, abs_d c.1] at h2
  rw [abs_d b.1, abs_d c.1] at k2
  have p : ∀ {x y : Int}, 1 ≤ x → 1 ≤ y → 0 < x * y := fun hx hy => Int.mul_pos (by omega) (by omega)
  have q : ∀ {x y : Int}, 1 ≤ x → 1 ≤ y → 1 ≤ x * y := fun hx hy => p hx hy
  rw [cmpI_sub, cmpI_sub (A.n * B.d), ← cmpI_pos (k := A.d * C.d * (B.d * C.d)) (z := X.n * Y.d - Y.n * X.d) (p (q a.1 c.1) (q b.1 c.1)), ← cmpI_pos (k := X.d * Y.d * (C.d * C.d)) (z := A.n * B.d - B.n * A.d) (p (q h1.1 k1.1) (q c.1 c.1))]
  congr 1
  have hc0 := c.1
  clear p q a b c h1 k1 h k
  grind
theorem cmpE_self (A : Rt) : cmpE A A = 0 := cmpI_self _
end Go.Proofs.YtdfiicpikcdokaaDoor
namespace Go.Proofs.YtdfiicpikcdokaaDoor
set_option linter.unusedSimpArgs false
set_option linter.unusedVariables false
open Go.RowKit
set_option maxRecDepth 100000

theorem in64_of {n : Int} (h : (Lit.int .i64 n).wf = true) : In64 n := by
  have h1 : IntKind.i64.min = -9223372036854775808 := by decide
  have h2 : IntKind.i64.max = 9223372036854775807 := by decide
  simp [Lit.wf, h1, h2] at h
  exact h
theorem fit_i64 {d : Nat} {t : TypeId} (ht : Tryd.prog.underlying t = some (.int .i64)) {ls : List LV} (h : fitT Tryd.prog d t ls) : ∃ n, ls = [.sc (.int .i64 n)] ∧ In64 n := by
  cases d with
  | zero => exact h.elim
  | succ d =>
    unfold fitT at h; rw [ht] at h
    obtain ⟨n, rfl, hw⟩ := h
    exact ⟨n, rfl, in64_of hw⟩
theorem fit_bool {d : Nat} {t : TypeId} (ht : Tryd.prog.underlying t = some .bool) {ls : List LV} (h : fitT Tryd.prog d t ls) : ∃ b, ls = [.sc (.bool b)] := by
  cases d with
  | zero => exact h.elim
  | succ d => unfold fitT at h; rw [ht] at h; exact h
theorem fit_str {d : Nat} {t : TypeId} (ht : Tryd.prog.underlying t = some .string) {ls : List LV} (h : fitT Tryd.prog d t ls) : ∃ s : ByteArray, ls = [.sc (.string s)] ∧ s.size ≤ maxLen := by
  cases d with
  | zero => exact h.elim
  | succ d => unfold fitT at h; rw [ht] at h; exact h
theorem fit_sl {d : Nat} {t e : TypeId} (ht : Tryd.prog.underlying t = some (.slice e)) {ls : List LV} (h : fitT Tryd.prog d t ls) : ∃ d' n f, ls = [.rsl (Tryd.prog.cellsOf e) n f] ∧ n ≤ maxLen ∧ ∀ i, i < n → fitT Tryd.prog d' e (f i) := by
  cases d with
  | zero => exact h.elim
  | succ d => unfold fitT at h; rw [ht] at h; obtain ⟨n, f, h⟩ := h; exact ⟨d, n, f, h⟩
theorem fit_struct {d : Nat} {t : TypeId} {fs : Array Field} (ht : Tryd.prog.underlying t = some (.struct fs)) {ls : List LV} (h : fitT Tryd.prog d t ls) : ls.length = Tryd.prog.cellsOf t ∧ ∃ d', ∀ (i : Nat) (f : Field), fs[i]? = some f → fitT Tryd.prog d' f.type ((ls.drop f.offset).take (Tryd.prog.cellsOf f.type)) := by
  cases d with
  | zero => exact h.elim
  | succ d => unfold fitT at h; rw [ht] at h; exact ⟨h.1, d, h.2⟩
theorem rsl_congr {z n : Nat} {f g : Nat → List LV} (h : ∀ i, i < n → f i = g i) {R : RO} {v : Value} (hr : Ro R (.rsl z n f) v) : Ro R (.rsl z n g) v := by
  cases hr with
  | rsl _ _ _ a cap b o w hc hm ha hf hcell hv hp =>
    exact .rsl _ _ _ a cap b o w hc hm ha (fun i hi => by rw [← h i hi]; exact hf i hi) hcell (fun i j c hi hj => hv i j c hi (by rw [h i hi]; exact hj)) hp
/-- A list out of a function on numbers. -/
def listOf {α : Type} (n : Nat) (g : Nat → α) : List α := (List.range n).map g
theorem listOf_get {α : Type} (n : Nat) (g : Nat → α) (d : α) {i : Nat} (hi : i < n) : (listOf n g).getD i d = g i := by
  rw [List.getD_eq_getElem?_getD, listOf, List.getElem?_map, List.getElem?_range hi]; rfl
theorem listOf_len {α : Type} (n : Nat) (g : Nat → α) : (listOf n g).length = n := by simp [listOf]
theorem listOf_mem {α : Type} {n : Nat} {g : Nat → α} {x : α} (h : x ∈ listOf n g) : ∃ i, i < n ∧ g i = x := by
  simp only [listOf, List.mem_map, List.mem_range] at h; exact h
def flat1 (P : Program) (fs : List Field) : Nat → Bool
  | n => decide (fs.length = n) && (List.range n).all fun i => match fs[i]? with
    | some f => decide (f.offset = i) && decide (P.cellsOf f.type = 1)
    | none => false
theorem fit_flat {d n : Nat} {t : TypeId} {fs : Array Field} (ht : Tryd.prog.underlying t = some (.struct fs)) (hn : Tryd.prog.cellsOf t = n) (hf : flat1 Tryd.prog fs.toList n = true) {ls : List LV} (h : fitT Tryd.prog d t ls) :
    ls.length = n ∧ ∃ d', ∀ (i : Nat) (f : Field), fs[i]? = some f → ∃ x, ls[i]? = some x ∧ fitT Tryd.prog d' f.type [x] := by
  obtain ⟨h1, d', h2⟩ := fit_struct ht h
  rw [hn] at h1
  refine ⟨h1, d', fun i f hi => ?_⟩
  unfold flat1 at hf
  simp only [Bool.and_eq_true, decide_eq_true_eq, List.all_eq_true, List.mem_range] at hf
  obtain ⟨g1, g2⟩ := hf
  have hlt : i < n := by have := (Array.getElem?_eq_some_iff.1 hi).1; simp at g1; omega
  have g3 := g2 i hlt
  have hi' : fs.toList[i]? = some f := by rw [Array.getElem?_toList]; exact hi
  rw [hi'] at g3
  simp only [Bool.and_eq_true, decide_eq_true_eq] at g3
  have h3 := h2 i f hi
  rw [g3.1, g3.2] at h3
  have hx : ls[i]? = some (ls[i]'(by omega)) := List.getElem?_eq_getElem (by omega)
  refine ⟨_, hx, ?_⟩
  have : (ls.drop i).take 1 = [ls[i]'(by omega)] := by
    rw [List.drop_eq_getElem_cons (by omega)]; rfl
  rw [this] at h3
  exact h3
/-- One lifted value says no less than another. -/
def Im (a b : LV) : Prop := ∀ R v, Ro R a v → Ro R b v
theorem Im.refl (a : LV) : Im a a := fun _ _ h => h
theorem Im.rsl {z n : Nat} {f g : Nat → List LV} (h : ∀ i, i < n → f i = g i) : Im (.rsl z n f) (.rsl z n g) := fun _ _ hr => rsl_congr h hr
theorem Im.agg {xs bs : List LV} (hl : xs.length = bs.length) (h : ∀ (i : Nat) (b : LV), bs[i]? = some b → ∃ a, xs[i]? = some a ∧ Im a b) : Im (.agg xs) (.agg bs) := by
  intro R v hr
  cases hr with
  | agg _ vs hs hc hp =>
    refine .agg _ _ (by omega) (fun i b hb => ?_) hp
    obtain ⟨a, ha, him⟩ := h i b hb
    exact him _ _ (hc i a ha)
def ImL : List LV → List LV → Prop
  | [], [] => True
  | a :: xs, b :: bs => Im a b ∧ ImL xs bs
  | _, _ => False
theorem ImL_get : ∀ {xs bs : List LV}, ImL xs bs → xs.length = bs.length ∧ ∀ (i : Nat) (b : LV), bs[i]? = some b → ∃ a, xs[i]? = some a ∧ Im a b
  | [], [], _ => ⟨rfl, fun i b h => by simp at h⟩
  | a :: xs, b :: bs, h => by
    obtain ⟨h1, h2⟩ := ImL_get h.2
    refine ⟨by simp [h1], fun i c hc => ?_⟩
    cases i with
    | zero => simp at hc; subst hc; exact ⟨a, rfl, h.1⟩
    | succ i => obtain ⟨x, hx, hx2⟩ := h2 i c (by simpa using hc); exact ⟨x, by simpa using hx, hx2⟩
  | [], _ :: _, h => h.elim
  | _ :: _, [], h => h.elim
theorem Im.aggL {xs bs : List LV} (h : ImL xs bs) : Im (.agg xs) (.agg bs) := Im.agg (ImL_get h).1 (ImL_get h).2
theorem ev_im {P : Program} {f : FuncId} {xs bs : List LV} {r : LV} (h : ImL xs bs) (he : Ev P f bs r) : Ev P f xs r := by
  intro R w vs hR hgl hs ha
  obtain ⟨h1, h2⟩ := ImL_get h
  refine he R w vs hR hgl (by omega) (fun i b hb => ?_)
  obtain ⟨a, ha', him⟩ := h2 i b hb
  exact him _ _ (ha i a ha')

theorem arg_cell {t : TypeId} (hs : structT Tryd.prog t = false) {lv : LV} (h : fitA Tryd.prog t lv) : fitT Tryd.prog 20 t [lv] := by
  obtain ⟨ls, h1, ⟨h2, _⟩ | ⟨_, rfl⟩⟩ := h
  · rw [hs] at h2; simp at h2
  · exact h1
theorem arg_agg {t : TypeId} (hs : structT Tryd.prog t = true) {lv : LV} (h : fitA Tryd.prog t lv) : ∃ ls, lv = .agg ls ∧ fitT Tryd.prog 20 t ls := by
  obtain ⟨ls, h1, ⟨_, rfl⟩ | ⟨h2, _⟩⟩ := h
  · exact ⟨ls, rfl, h1⟩
  · rw [hs] at h2; simp at h2
theorem arg_int {lv : LV} (h : fitA Tryd.prog 3 lv) : ∃ n, lv = .sc (.int .i64 n) ∧ In64 n := by
  obtain ⟨n, h1, h2⟩ := fit_i64 Tryd.underlying3 (arg_cell (by kernel_rfl) h)
  simp only [List.cons.injEq, and_true] at h1
  exact ⟨n, h1, h2⟩
theorem arg_u8 {lv : LV} (h : fitA Tryd.prog 5 lv) : ∃ n, lv = .sc (.int .u8 n) ∧ 0 ≤ n ∧ n ≤ 255 := by
  have h := arg_cell (by kernel_rfl) h
  unfold fitT at h
  rw [Tryd.underlying5] at h
  obtain ⟨n, h1, h2⟩ := h
  simp only [List.cons.injEq, and_true] at h1
  have e1 : IntKind.u8.min = 0 := by decide
  have e2 : IntKind.u8.max = 255 := by decide
  simp [Lit.wf, e1, e2] at h2
  exact ⟨n, h1, h2⟩
theorem all1 {t : TypeId} {ts : List TypeId} {l : List LV} (h : fitAll Tryd.prog (t :: ts) l) : ∃ a r, l = a :: r ∧ fitA Tryd.prog t a ∧ fitAll Tryd.prog ts r := by
  cases l with
  | nil => exact h.elim
  | cons a r => exact ⟨a, r, rfl, h.1, h.2⟩
theorem all0 {l : List LV} (h : fitAll Tryd.prog [] l) : l = [] := by
  cases l with
  | nil => rfl
  | cons a r => exact h.elim
theorem Tryd.own' : ownKnob Tryd.prog.godebug = none := by kernel_rfl
theorem Tryd.laidOut' : laidOutB Tryd.prog = true := by kernel_rfl
end Go.Proofs.YtdfiicpikcdokaaDoor
namespace Go.Proofs.YtdfiicpikcdokaaDoor
set_option linter.unusedSimpArgs false
set_option linter.unusedVariables false
open Go.RowKit
set_option maxRecDepth 20000

def In29 (x : Int) : Prop := -536870912 ≤ x ∧ x ≤ 536870912
theorem mul29 {x y : Int} (hx : In29 x) (hy : In29 y) : -288230376151711744 ≤ x * y ∧ x * y ≤ 288230376151711744 := by
  unfold In29 at *
  have h : (x * y).natAbs ≤ 536870912 * 536870912 := by rw [Int.natAbs_mul]; exact Nat.mul_le_mul (by omega) (by omega)
  omega
theorem ev_rgcd (a b : Nat) : Ev Tryd.prog 58 [.sc (.int .i64 (a : Int)), .sc (.int .i64 (b : Int))] (.sc (.int .i64 ((Nat.gcd a b : Nat) : Int))) := by
  refine ev_fn Tryd.func58 comp58 (show 2 ≤ Tryd.f58.ntmps by decide) ?_; unfold cf58 rf58; simp only [↓EVP0, EVQ0, EVQ1, EVQ2, EVQ3, EVQ4, EVA, EVK, EVFR, ↓reduceIte, Nat.reduceEqDiff, Nat.reduceAdd, Nat.reduceSub, Nat.reduceMul, Nat.reduceLT, Nat.reduceLeDiff, reduceCtorEq, Int.reduceToNat, Int.reduceLT, Int.reduceLE, Int.reduceAdd, Int.reduceSub, Int.reduceMul, Int.reduceNeg, Int.reduceEq, Nat.reduceMod, forall_eq_or_imp, forall_eq, forall_const, cond_true, cond_false, decide_true, decide_false, true_imp_iff, implies_true, Int.cast_ofNat_Int, forall_eq']
  refine lwp_loop (α := Nat × Nat) (fun q => Nat.gcd q.1 q.2 = Nat.gcd a b) (fun q => [(0, .sc (.int .i64 (q.1 : Int))), (1, .sc (.int .i64 (q.2 : Int)))]) (fun _ => []) (fun q => q.2) (a, b) rfl ?_ (fun _ => Nat.zero_le _) ?_
  · simp only [↓EVP0, EVQ0, EVQ1, EVQ2, EVQ3, EVQ4, EVA, EVK, EVFR, ↓reduceIte, Nat.reduceEqDiff, Nat.reduceAdd, Nat.reduceSub, Nat.reduceMul, Nat.reduceLT, Nat.reduceLeDiff, reduceCtorEq, Int.reduceToNat, Int.reduceLT, Int.reduceLE, Int.reduceAdd, Int.reduceSub, Int.reduceMul, Int.reduceNeg, Int.reduceEq, Nat.reduceMod, forall_eq_or_imp, forall_eq, forall_const, cond_true, cond_false, decide_true, decide_false, true_imp_iff, implies_true, Int.cast_ofNat_Int, forall_eq']
  rintro ⟨x, y⟩ hxy
  unfold lb58_0
  simp only [↓EVP0, EVQ0, EVQ1, EVQ2, EVQ3, EVQ4, EVA, EVK, EVFR, ↓reduceIte, Nat.reduceEqDiff, Nat.reduceAdd, Nat.reduceSub, Nat.reduceMul, Nat.reduceLT, Nat.reduceLeDiff, reduceCtorEq, Int.reduceToNat, Int.reduceLT, Int.reduceLE, Int.reduceAdd, Int.reduceSub, Int.reduceMul, Int.reduceNeg, Int.reduceEq, Nat.reduceMod, forall_eq_or_imp, forall_eq, forall_const, cond_true, cond_false, decide_true, decide_false, true_imp_iff, implies_true, Int.cast_ofNat_Int, forall_eq']
  refine ⟨fun h => ⟨by simp at h; omega, (y, x % y), ?_, ⟨rfl, (Int.ofNat_tmod x y).symm⟩, ?_⟩, fun h => ?_⟩
  · simp only at hxy ⊢
    rw [← hxy, Nat.gcd_comm x y, Nat.gcd_rec y x, Nat.gcd_comm]
  · simp at h
    exact Nat.mod_lt _ (by omega)
  · have : y = 0 := by simp at h; omega
    subst this
    simp only [Nat.gcd_zero_right] at hxy
    rw [hxy]
theorem ev_rabs (n : Int) (h : -9223372036854775807 ≤ n ∧ n ≤ 9223372036854775807) : Ev Tryd.prog 59 [.sc (.int .i64 n)] (.sc (.int .i64 ((mag n : Nat) : Int))) := by
  refine ev_fn Tryd.func59 comp59 (show 1 ≤ Tryd.f59.ntmps by decide) ?_; unfold cf59 rf59; simp only [↓EVP0, EVQ0, EVQ1, EVQ2, EVQ3, EVQ4, EVA, EVK, EVFR, ↓reduceIte, Nat.reduceEqDiff, Nat.reduceAdd, Nat.reduceSub, Nat.reduceMul, Nat.reduceLT, Nat.reduceLeDiff, reduceCtorEq, Int.reduceToNat, Int.reduceLT, Int.reduceLE, Int.reduceAdd, Int.reduceSub, Int.reduceMul, Int.reduceNeg, Int.reduceEq, Nat.reduceMod, forall_eq_or_imp, forall_eq, forall_const, cond_true, cond_false, decide_true, decide_false, true_imp_iff, implies_true, Int.cast_ofNat_Int, forall_eq']
  unfold mag
  rw [wrap64_in (show In64 (0 - n) by unfold In64; omega)]
  refine ⟨fun g => ?_, fun g => ?_⟩
  · have g' : n < 0 := by simpa using g
    omega
  · have g' : ¬ n < 0 := by simpa using g
    omega
theorem ev_rvalid (r : Rt) : Ev Tryd.prog 49 [ratV r] (.sc (.bool (vldR r))) := by
  have h1 := ev_rabs r.n
  have h3 := ev_rgcd
  unfold ratV
  refine ev_fn Tryd.func49 comp49 (show 1 ≤ Tryd.f49.ntmps by decide) ?_; unfold cf49 rf49; simp only [↓EVP0, EVQ0, EVQ1, EVQ2, EVQ3, EVQ4, EVA, EVK, EVFR, ↓reduceIte, Nat.reduceEqDiff, Nat.reduceAdd, Nat.reduceSub, Nat.reduceMul, Nat.reduceLT, Nat.reduceLeDiff, reduceCtorEq, Int.reduceToNat, Int.reduceLT, Int.reduceLE, Int.reduceAdd, Int.reduceSub, Int.reduceMul, Int.reduceNeg, Int.reduceEq, Nat.reduceMod, forall_eq_or_imp, forall_eq, forall_const, cond_true, cond_false, decide_true, decide_false, true_imp_iff, implies_true, Int.cast_ofNat_Int, forall_eq']
  refine ⟨fun g => ?_, fun g => ?_⟩
  · have : vldR r = true := by
      unfold vldR
      cases h : decide (r.n = 0) <;> rw [h] at g <;> simp at g
      simp [g]
    rw [this]
  (first | refine lopsQ_gcall ?_ | refine lopsQ_gecl ?_); (simp only [↓EVP0, EVQ0, EVQ1, EVQ2, EVQ3, EVQ4, EVA, EVK, EVFR, ↓reduceIte, Nat.reduceEqDiff, Nat.reduceAdd, Nat.reduceSub, Nat.reduceMul, Nat.reduceLT, Nat.reduceLeDiff, reduceCtorEq, Int.reduceToNat, Int.reduceLT, Int.reduceLE, Int.reduceAdd, Int.reduceSub, Int.reduceMul, Int.reduceNeg, Int.reduceEq, Nat.reduceMod, forall_eq_or_imp, forall_eq, forall_const, cond_true, cond_false, decide_true, decide_false, true_imp_iff, implies_true, Int.cast_ofNat_Int, forall_eq'])
  first | refine gCallK_ro (.sc (.int .i64 ((mag r.n : Nat) : Int))) (fun hg => h1 ?_) (fun _ => ?_) ?_ | refine geCallK_ro (.sc (.int .i64 ((mag r.n : Nat) : Int))) (fun hg => h1 ?_) (fun _ => ?_) ?_
  · simp only [condF, Bool.and_eq_true, decide_eq_true_eq] at hg; omega
  · simp only [↓EVP0, EVQ0, EVQ1, EVQ2, EVQ3, EVQ4, EVA, EVK, EVFR, ↓reduceIte, Nat.reduceEqDiff, Nat.reduceAdd, Nat.reduceSub, Nat.reduceMul, Nat.reduceLT, Nat.reduceLeDiff, reduceCtorEq, Int.reduceToNat, Int.reduceLT, Int.reduceLE, Int.reduceAdd, Int.reduceSub, Int.reduceMul, Int.reduceNeg, Int.reduceEq, Nat.reduceMod, forall_eq_or_imp, forall_eq, forall_const, cond_true, cond_false, decide_true, decide_false, true_imp_iff, implies_true, Int.cast_ofNat_Int, forall_eq']
  simp only [↓EVP0, EVQ0, EVQ1, EVQ2, EVQ3, EVQ4, EVA, EVK, EVFR, ↓reduceIte, Nat.reduceEqDiff, Nat.reduceAdd, Nat.reduceSub, Nat.reduceMul, Nat.reduceLT, Nat.reduceLeDiff, reduceCtorEq, Int.reduceToNat, Int.reduceLT, Int.reduceLE, Int.reduceAdd, Int.reduceSub, Int.reduceMul, Int.reduceNeg, Int.reduceEq, Nat.reduceMod, forall_eq_or_imp, forall_eq, forall_const, cond_true, cond_false, decide_true, decide_false, true_imp_iff, implies_true, Int.cast_ofNat_Int, forall_eq']
  (first | refine lopsQ_gcall ?_ | refine lopsQ_gecl ?_); (simp only [↓EVP0, EVQ0, EVQ1, EVQ2, EVQ3, EVQ4, EVA, EVK, EVFR, ↓reduceIte, Nat.reduceEqDiff, Nat.reduceAdd, Nat.reduceSub, Nat.reduceMul, Nat.reduceLT, Nat.reduceLeDiff, reduceCtorEq, Int.reduceToNat, Int.reduceLT, Int.reduceLE, Int.reduceAdd, Int.reduceSub, Int.reduceMul, Int.reduceNeg, Int.reduceEq, Nat.reduceMod, forall_eq_or_imp, forall_eq, forall_const, cond_true, cond_false, decide_true, decide_false, true_imp_iff, implies_true, Int.cast_ofNat_Int, forall_eq'])
  have h4 : ∀ hg : 1 ≤ r.d, Ev Tryd.prog 58 [.sc (.int .i64 ((mag r.n : Nat) : Int)), .sc (.int .i64 r.d)] (.sc (.int .i64 ((Nat.gcd (mag r.n) (mag r.d) : Nat) : Int))) := by
    intro hg
    have := h3 (mag r.n) (mag r.d)
    rw [show ((mag r.d : Nat) : Int) = r.d by unfold mag; omega] at this
    exact this
  first | refine gCallK_ro _ (fun hg => h4 ?_) (fun _ => ?_) ?_ | refine geCallK_ro _ (fun hg => h4 ?_) (fun _ => ?_) ?_
  · simp only [condF, Bool.and_eq_true, decide_eq_true_eq] at hg; omega
  · simp only [↓EVP0, EVQ0, EVQ1, EVQ2, EVQ3, EVQ4, EVA, EVK, EVFR, ↓reduceIte, Nat.reduceEqDiff, Nat.reduceAdd, Nat.reduceSub, Nat.reduceMul, Nat.reduceLT, Nat.reduceLeDiff, reduceCtorEq, Int.reduceToNat, Int.reduceLT, Int.reduceLE, Int.reduceAdd, Int.reduceSub, Int.reduceMul, Int.reduceNeg, Int.reduceEq, Nat.reduceMod, forall_eq_or_imp, forall_eq, forall_const, cond_true, cond_false, decide_true, decide_false, true_imp_iff, implies_true, Int.cast_ofNat_Int, forall_eq']
  simp only [↓EVP0, EVQ0, EVQ1, EVQ2, EVQ3, EVQ4, EVA, EVK, EVFR, ↓reduceIte, Nat.reduceEqDiff, Nat.reduceAdd, Nat.reduceSub, Nat.reduceMul, Nat.reduceLT, Nat.reduceLeDiff, reduceCtorEq, Int.reduceToNat, Int.reduceLT, Int.reduceLE, Int.reduceAdd, Int.reduceSub, Int.reduceMul, Int.reduceNeg, Int.reduceEq, Nat.reduceMod, forall_eq_or_imp, forall_eq, forall_const, cond_true, cond_false, decide_true, decide_false, true_imp_iff, implies_true, Int.cast_ofNat_Int, forall_eq']
  simp only [condF] at g ⊢
  unfold vldR
  rw [g, Bool.false_or]
  have e : ∀ n : Nat, decide ((n : Int) = 1) = decide (n = 1) := fun n => by
    by_cases h : n = 1
    · subst h; rfl
    · have : ¬ (n : Int) = 1 := by omega
      simp [h, this]
  rw [e]
  cases decide (1 ≤ r.d) <;> cases decide (r.d ≤ 1152921504606846976) <;> cases decide (-1152921504606846976 ≤ r.n) <;> cases decide (r.n ≤ 1152921504606846976) <;> rfl
def fullR (r : Rt) : Rt := if r.d = 0 then ⟨0, 1⟩ else r
theorem ev_full (r : Rt) : Ev Tryd.prog 28 [ratV r] (ratV (fullR r)) := by
  unfold ratV
  refine ev_fn Tryd.func28 comp28 (show 1 ≤ Tryd.f28.ntmps by decide) ?_; unfold cf28 rf28; simp only [↓EVP0, EVQ0, EVQ1, EVQ2, EVQ3, EVQ4, EVA, EVK, EVFR, ↓reduceIte, Nat.reduceEqDiff, Nat.reduceAdd, Nat.reduceSub, Nat.reduceMul, Nat.reduceLT, Nat.reduceLeDiff, reduceCtorEq, Int.reduceToNat, Int.reduceLT, Int.reduceLE, Int.reduceAdd, Int.reduceSub, Int.reduceMul, Int.reduceNeg, Int.reduceEq, Nat.reduceMod, forall_eq_or_imp, forall_eq, forall_const, cond_true, cond_false, decide_true, decide_false, true_imp_iff, implies_true, Int.cast_ofNat_Int, forall_eq']
  unfold fullR
  refine ⟨fun g => ?_, fun g => ?_⟩
  · rw [if_pos (by simpa using g)]; exact ⟨rfl, rfl⟩
  · rw [if_neg (by simpa using g)]; exact ⟨rfl, rfl⟩
theorem full_nrm {r : Rt} (h : vldR r = true) : fullR r = nrmR r := by
  unfold fullR nrmR
  split
  · unfold vldR at h
    simp only [Bool.or_eq_true, Bool.and_eq_true, decide_eq_true_eq] at h
    rcases h with h | h
    · rw [h.1]
    · omega
  · rfl
theorem tdiv_sg (n : Int) (g : Nat) : n.tdiv (g : Int) = sg (decide (n < 0)) (n.natAbs / g) := by
  have h := sg_of n
  generalize n.natAbs = m at *
  generalize decide (n < 0) = s at *
  rw [← h]
  cases s
  · simp only [sg, cond_false]; rw [← Int.ofNat_tdiv]
  · simp only [sg, cond_true]; rw [Int.neg_tdiv, ← Int.ofNat_tdiv]
theorem low_tdiv (n : Int) (y g : Nat) (hy : 0 < y) (hg : g = Nat.gcd n.natAbs y) : low n y = if vldR ⟨n.tdiv g, (y : Int).tdiv g⟩ = true then (⟨n.tdiv g, (y : Int).tdiv g⟩, 0) else (⟨0, 0⟩, 10) := by
  obtain ⟨h1, h2, _⟩ := low_terms n y hy
  subst hg
  rw [tdiv_sg, ← Int.ofNat_tdiv]
  unfold low res
  generalize n.natAbs / Nat.gcd n.natAbs y = m at *
  generalize y / Nat.gcd n.natAbs y = k at *
  generalize decide (n < 0) = s
  have hs := sg_natAbs s m
  have hv : vldR ⟨sg s m, (k : Int)⟩ = true ↔ m ≤ 1152921504606846976 ∧ k ≤ 1152921504606846976 := by
    unfold vldR mag
    simp only [Bool.or_eq_true, Bool.and_eq_true, decide_eq_true_eq]
    rw [hs, Int.natAbs_natCast]
    constructor
    · rintro (h | h) <;> omega
    · intro h
      exact .inr ⟨by omega, by omega, by omega, by omega, h1⟩
  split
  · rename_i h0
    subst h0
    have hk : k = 1 := by simpa using h1
    subst hk
    rw [if_pos (hv.2 (by omega))]
    cases s <;> rfl
  · by_cases hb : m ≤ 1152921504606846976 ∧ k ≤ 1152921504606846976
    · rw [if_pos hb, if_pos (hv.2 hb)]
    · rw [if_neg hb, if_neg (fun h => hb (hv.1 h))]
def In63 (x : Int) : Prop := -9223372036854775807 ≤ x ∧ x ≤ 9223372036854775807
theorem tdiv_in {n : Int} (g : Nat) (h : In63 n) : In64 (n.tdiv (g : Int)) := by
  rw [tdiv_sg]
  have t := Nat.div_le_self n.natAbs g
  generalize n.natAbs / g = q at *
  unfold In63 at h
  unfold In64 sg
  cases decide (n < 0) <;> simp only [cond_true, cond_false] <;> omega
theorem ev_rof (n d : Int) (hn : In63 n) (hd : In63 d) : Ev Tryd.prog 55 [.sc (.int .i64 n), .sc (.int .i64 d)] (rrV (ofR n d)) := by
  unfold In63 at *
  unfold rrV ratV
  refine ev_fn Tryd.func55 comp55 (show 2 ≤ Tryd.f55.ntmps by decide) ?_; unfold cf55 rf55; simp only [↓EVP0, EVQ0, EVQ1, EVQ2, EVQ3, EVQ4, EVA, EVK, EVFR, ↓reduceIte, Nat.reduceEqDiff, Nat.reduceAdd, Nat.reduceSub, Nat.reduceMul, Nat.reduceLT, Nat.reduceLeDiff, reduceCtorEq, Int.reduceToNat, Int.reduceLT, Int.reduceLE, Int.reduceAdd, Int.reduceSub, Int.reduceMul, Int.reduceNeg, Int.reduceEq, Nat.reduceMod, forall_eq_or_imp, forall_eq, forall_const, cond_true, cond_false, decide_true, decide_false, true_imp_iff, implies_true, Int.cast_ofNat_Int, forall_eq']
  rw [wrap64_in (show In64 (0 - n) by unfold In64; omega), wrap64_in (show In64 (0 - d) by unfold In64; omega)]
  unfold ofR
  refine ⟨fun g => ?_, fun g => ?_⟩
  · rw [if_pos (by simpa using g)]; exact ⟨⟨rfl, rfl⟩, rfl⟩
  have hd0 : d ≠ 0 := by simpa using g
  rw [if_neg hd0]
  refine ⟨fun g => ?_, fun g => ?_⟩
  all_goals simp only [decide_eq_true_eq, decide_eq_false_iff_not] at g
  rw [if_pos g, show -n = 0 - n by omega, show mag d = mag (0 - d) by unfold mag; omega]
  have b1 : -9223372036854775807 ≤ 0 - n ∧ 0 - n ≤ 9223372036854775807 := by omega
  have b2 : 0 < 0 - d ∧ 0 - d ≤ 9223372036854775807 := by omega
  clear hn hd hd0 g
  generalize 0 - n = n at *
  generalize 0 - d = d at *
  rotate_left
  rw [if_neg g]
  have b1 := hn
  have b2 : 0 < d ∧ d ≤ 9223372036854775807 := by omega
  clear hn hd hd0 g
  all_goals
    have h1 := ev_rabs n b1
    have h2 := ev_rgcd (mag n) (mag d)
    have e1 : ((mag d : Nat) : Int) = d := by unfold mag; omega
    rw [e1] at h2
    have p0 : 0 < mag d := by unfold mag; omega
    have h3 := low_tdiv n (mag d) _ p0 rfl
    rw [e1] at h3
    have hg0 : 0 < Nat.gcd (mag n) (mag d) := Nat.gcd_pos_of_pos_right _ p0
    rw [show n.natAbs = mag n from rfl] at h3
    have i1 : In64 (n.tdiv (Nat.gcd (mag n) (mag d) : Nat)) := tdiv_in _ b1
    have i2 : In64 (d.tdiv (Nat.gcd (mag n) (mag d) : Nat)) := tdiv_in _ ⟨by omega, b2.2⟩
    have hne : ((Nat.gcd (mag n) (mag d) : Nat) : Int) ≠ 0 := by omega
    have h4 := ev_rvalid ⟨n.tdiv (Nat.gcd (mag n) (mag d) : Nat), d.tdiv (Nat.gcd (mag n) (mag d) : Nat)⟩
    unfold ratV at h4
    refine callK_ro (h1) ?_ ?_
    · simp only [↓EVP0, EVQ0, EVQ1, EVQ2, EVQ3, EVQ4, EVA, EVK, EVFR, ↓reduceIte, Nat.reduceEqDiff, Nat.reduceAdd, Nat.reduceSub, Nat.reduceMul, Nat.reduceLT, Nat.reduceLeDiff, reduceCtorEq, Int.reduceToNat, Int.reduceLT, Int.reduceLE, Int.reduceAdd, Int.reduceSub, Int.reduceMul, Int.reduceNeg, Int.reduceEq, Nat.reduceMod, forall_eq_or_imp, forall_eq, forall_const, cond_true, cond_false, decide_true, decide_false, true_imp_iff, implies_true, Int.cast_ofNat_Int, forall_eq']
    simp only [↓EVP0, EVQ0, EVQ1, EVQ2, EVQ3, EVQ4, EVA, EVK, EVFR, ↓reduceIte, Nat.reduceEqDiff, Nat.reduceAdd, Nat.reduceSub, Nat.reduceMul, Nat.reduceLT, Nat.reduceLeDiff, reduceCtorEq, Int.reduceToNat, Int.reduceLT, Int.reduceLE, Int.reduceAdd, Int.reduceSub, Int.reduceMul, Int.reduceNeg, Int.reduceEq, Nat.reduceMod, forall_eq_or_imp, forall_eq, forall_const, cond_true, cond_false, decide_true, decide_false, true_imp_iff, implies_true, Int.cast_ofNat_Int, forall_eq']
    refine callK_ro (h2) ?_ ?_
    · simp only [↓EVP0, EVQ0, EVQ1, EVQ2, EVQ3, EVQ4, EVA, EVK, EVFR, ↓reduceIte, Nat.reduceEqDiff, Nat.reduceAdd, Nat.reduceSub, Nat.reduceMul, Nat.reduceLT, Nat.reduceLeDiff, reduceCtorEq, Int.reduceToNat, Int.reduceLT, Int.reduceLE, Int.reduceAdd, Int.reduceSub, Int.reduceMul, Int.reduceNeg, Int.reduceEq, Nat.reduceMod, forall_eq_or_imp, forall_eq, forall_const, cond_true, cond_false, decide_true, decide_false, true_imp_iff, implies_true, Int.cast_ofNat_Int, forall_eq']
    simp only [↓EVP0, EVQ0, EVQ1, EVQ2, EVQ3, EVQ4, EVA, EVK, EVFR, ↓reduceIte, Nat.reduceEqDiff, Nat.reduceAdd, Nat.reduceSub, Nat.reduceMul, Nat.reduceLT, Nat.reduceLeDiff, reduceCtorEq, Int.reduceToNat, Int.reduceLT, Int.reduceLE, Int.reduceAdd, Int.reduceSub, Int.reduceMul, Int.reduceNeg, Int.reduceEq, Nat.reduceMod, forall_eq_or_imp, forall_eq, forall_const, cond_true, cond_false, decide_true, decide_false, true_imp_iff, implies_true, Int.cast_ofNat_Int, forall_eq']
    rw [h3]
    refine ⟨⟨hne, i1⟩, ⟨hne, i2⟩, ?_⟩
    refine callK_ro (h4) ?_ ?_
    · simp only [↓EVP0, EVQ0, EVQ1, EVQ2, EVQ3, EVQ4, EVA, EVK, EVFR, ↓reduceIte, Nat.reduceEqDiff, Nat.reduceAdd, Nat.reduceSub, Nat.reduceMul, Nat.reduceLT, Nat.reduceLeDiff, reduceCtorEq, Int.reduceToNat, Int.reduceLT, Int.reduceLE, Int.reduceAdd, Int.reduceSub, Int.reduceMul, Int.reduceNeg, Int.reduceEq, Nat.reduceMod, forall_eq_or_imp, forall_eq, forall_const, cond_true, cond_false, decide_true, decide_false, true_imp_iff, implies_true, Int.cast_ofNat_Int, forall_eq']
    simp only [↓EVP0, EVQ0, EVQ1, EVQ2, EVQ3, EVQ4, EVA, EVK, EVFR, ↓reduceIte, Nat.reduceEqDiff, Nat.reduceAdd, Nat.reduceSub, Nat.reduceMul, Nat.reduceLT, Nat.reduceLeDiff, reduceCtorEq, Int.reduceToNat, Int.reduceLT, Int.reduceLE, Int.reduceAdd, Int.reduceSub, Int.reduceMul, Int.reduceNeg, Int.reduceEq, Nat.reduceMod, forall_eq_or_imp, forall_eq, forall_const, cond_true, cond_false, decide_true, decide_false, true_imp_iff, implies_true, Int.cast_ofNat_Int, forall_eq']
    refine ⟨fun g => ?_, fun g => ?_⟩
    · rw [if_neg (by simpa using g)]; exact ⟨⟨rfl, rfl⟩, rfl⟩
    · rw [if_pos (by simpa using g)]; exact ⟨⟨rfl, rfl⟩, rfl⟩
/-- Valid and small. -/
def Sm (r : Rt) : Prop := vldR r = true ∧ In29 r.n ∧ In29 r.d
theorem full_sm {r : Rt} (h : Sm r) : In29 (fullR r).n ∧ In29 (fullR r).d ∧ 1 ≤ (fullR r).d := by
  obtain ⟨h1, h2, h3⟩ := h
  unfold fullR
  split
  · unfold In29; simp
  · refine ⟨h2, h3, ?_⟩
    unfold vldR at h1
    simp only [Bool.or_eq_true, Bool.and_eq_true, decide_eq_true_eq] at h1
    omega
theorem ev_radd (a b : Rt) (ha : Sm a) (hb : Sm b) : Ev Tryd.prog 42 [ratV a, ratV b] (rrV (ofR ((fullR a).n * (fullR b).d + (fullR b).n * (fullR a).d) ((fullR a).d * (fullR b).d))) := by
  have f1 := ev_full a
  have f2 := ev_full b
  obtain ⟨a1, a2, _⟩ := full_sm ha
  obtain ⟨b1, b2, _⟩ := full_sm hb
  have p1 := mul29 a1 b2
  have p2 := mul29 b1 a2
  have p3 := mul29 a2 b2
  generalize fullR a = A at *
  generalize fullR b = B at *
  have h1 := ev_rof (A.n * B.d + B.n * A.d) (A.d * B.d) (by unfold In63; omega) (by unfold In63; omega)
  unfold rrV ratV at *
  refine ev_fn Tryd.func42 comp42 (show 2 ≤ Tryd.f42.ntmps by decide) ?_; unfold cf42 rf42; simp only [↓EVP0, EVQ0, EVQ1, EVQ2, EVQ3, EVQ4, EVA, EVK, EVFR, ↓reduceIte, Nat.reduceEqDiff, Nat.reduceAdd, Nat.reduceSub, Nat.reduceMul, Nat.reduceLT, Nat.reduceLeDiff, reduceCtorEq, Int.reduceToNat, Int.reduceLT, Int.reduceLE, Int.reduceAdd, Int.reduceSub, Int.reduceMul, Int.reduceNeg, Int.reduceEq, Nat.reduceMod, forall_eq_or_imp, forall_eq, forall_const, cond_true, cond_false, decide_true, decide_false, true_imp_iff, implies_true, Int.cast_ofNat_Int, forall_eq']
  first | refine qCallK_ro (f1) ?_ ?_ | refine eCallK_ro (f1) ?_ ?_
  · simp only [↓EVP0, EVQ0, EVQ1, EVQ2, EVQ3, EVQ4, EVA, EVK, EVFR, ↓reduceIte, Nat.reduceEqDiff, Nat.reduceAdd, Nat.reduceSub, Nat.reduceMul, Nat.reduceLT, Nat.reduceLeDiff, reduceCtorEq, Int.reduceToNat, Int.reduceLT, Int.reduceLE, Int.reduceAdd, Int.reduceSub, Int.reduceMul, Int.reduceNeg, Int.reduceEq, Nat.reduceMod, forall_eq_or_imp, forall_eq, forall_const, cond_true, cond_false, decide_true, decide_false, true_imp_iff, implies_true, Int.cast_ofNat_Int, forall_eq']
  simp only [↓EVP0, EVQ0, EVQ1, EVQ2, EVQ3, EVQ4, EVA, EVK, EVFR, ↓reduceIte, Nat.reduceEqDiff, Nat.reduceAdd, Nat.reduceSub, Nat.reduceMul, Nat.reduceLT, Nat.reduceLeDiff, reduceCtorEq, Int.reduceToNat, Int.reduceLT, Int.reduceLE, Int.reduceAdd, Int.reduceSub, Int.reduceMul, Int.reduceNeg, Int.reduceEq, Nat.reduceMod, forall_eq_or_imp, forall_eq, forall_const, cond_true, cond_false, decide_true, decide_false, true_imp_iff, implies_true, Int.cast_ofNat_Int, forall_eq']
  first | refine qCallK_ro (f2) ?_ ?_ | refine eCallK_ro (f2) ?_ ?_
  · simp only [↓EVP0, EVQ0, EVQ1, EVQ2, EVQ3, EVQ4, EVA, EVK, EVFR, ↓reduceIte, Nat.reduceEqDiff, Nat.reduceAdd, Nat.reduceSub, Nat.reduceMul, Nat.reduceLT, Nat.reduceLeDiff, reduceCtorEq, Int.reduceToNat, Int.reduceLT, Int.reduceLE, Int.reduceAdd, Int.reduceSub, Int.reduceMul, Int.reduceNeg, Int.reduceEq, Nat.reduceMod, forall_eq_or_imp, forall_eq, forall_const, cond_true, cond_false, decide_true, decide_false, true_imp_iff, implies_true, Int.cast_ofNat_Int, forall_eq']
  simp only [↓EVP0, EVQ0, EVQ1, EVQ2, EVQ3, EVQ4, EVA, EVK, EVFR, ↓reduceIte, Nat.reduceEqDiff, Nat.reduceAdd, Nat.reduceSub, Nat.reduceMul, Nat.reduceLT, Nat.reduceLeDiff, reduceCtorEq, Int.reduceToNat, Int.reduceLT, Int.reduceLE, Int.reduceAdd, Int.reduceSub, Int.reduceMul, Int.reduceNeg, Int.reduceEq, Nat.reduceMod, forall_eq_or_imp, forall_eq, forall_const, cond_true, cond_false, decide_true, decide_false, true_imp_iff, implies_true, Int.cast_ofNat_Int, forall_eq']
  unfold In64
  refine ⟨by omega, by omega, by omega, by omega, ?_⟩
  refine callK_ro (h1) ?_ ?_
  · simp only [↓EVP0, EVQ0, EVQ1, EVQ2, EVQ3, EVQ4, EVA, EVK, EVFR, ↓reduceIte, Nat.reduceEqDiff, Nat.reduceAdd, Nat.reduceSub, Nat.reduceMul, Nat.reduceLT, Nat.reduceLeDiff, reduceCtorEq, Int.reduceToNat, Int.reduceLT, Int.reduceLE, Int.reduceAdd, Int.reduceSub, Int.reduceMul, Int.reduceNeg, Int.reduceEq, Nat.reduceMod, forall_eq_or_imp, forall_eq, forall_const, cond_true, cond_false, decide_true, decide_false, true_imp_iff, implies_true, Int.cast_ofNat_Int, forall_eq']
  simp only [↓EVP0, EVQ0, EVQ1, EVQ2, EVQ3, EVQ4, EVA, EVK, EVFR, ↓reduceIte, Nat.reduceEqDiff, Nat.reduceAdd, Nat.reduceSub, Nat.reduceMul, Nat.reduceLT, Nat.reduceLeDiff, reduceCtorEq, Int.reduceToNat, Int.reduceLT, Int.reduceLE, Int.reduceAdd, Int.reduceSub, Int.reduceMul, Int.reduceNeg, Int.reduceEq, Nat.reduceMod, forall_eq_or_imp, forall_eq, forall_const, cond_true, cond_false, decide_true, decide_false, true_imp_iff, implies_true, Int.cast_ofNat_Int, forall_eq']
theorem ev_rcmp (a b : Rt) (ha : Sm a) (hb : Sm b) : Ev Tryd.prog 43 [ratV a, ratV b] (.sc (.int .i64 (cmpE (fullR a) (fullR b)))) := by
  have f1 := ev_full a
  have f2 := ev_full b
  obtain ⟨a1, a2, _⟩ := full_sm ha
  obtain ⟨b1, b2, _⟩ := full_sm hb
  have p1 := mul29 a1 b2
  have p2 := mul29 b1 a2
  generalize fullR a = A at *
  generalize fullR b = B at *
  unfold ratV at *
  refine ev_fn Tryd.func43 comp43 (show 2 ≤ Tryd.f43.ntmps by decide) ?_; unfold cf43 rf43; simp only [↓EVP0, EVQ0, EVQ1, EVQ2, EVQ3, EVQ4, EVA, EVK, EVFR, ↓reduceIte, Nat.reduceEqDiff, Nat.reduceAdd, Nat.reduceSub, Nat.reduceMul, Nat.reduceLT, Nat.reduceLeDiff, reduceCtorEq, Int.reduceToNat, Int.reduceLT, Int.reduceLE, Int.reduceAdd, Int.reduceSub, Int.reduceMul, Int.reduceNeg, Int.reduceEq, Nat.reduceMod, forall_eq_or_imp, forall_eq, forall_const, cond_true, cond_false, decide_true, decide_false, true_imp_iff, implies_true, Int.cast_ofNat_Int, forall_eq']
  first | refine qCallK_ro (f1) ?_ ?_ | refine eCallK_ro (f1) ?_ ?_
  · simp only [↓EVP0, EVQ0, EVQ1, EVQ2, EVQ3, EVQ4, EVA, EVK, EVFR, ↓reduceIte, Nat.reduceEqDiff, Nat.reduceAdd, Nat.reduceSub, Nat.reduceMul, Nat.reduceLT, Nat.reduceLeDiff, reduceCtorEq, Int.reduceToNat, Int.reduceLT, Int.reduceLE, Int.reduceAdd, Int.reduceSub, Int.reduceMul, Int.reduceNeg, Int.reduceEq, Nat.reduceMod, forall_eq_or_imp, forall_eq, forall_const, cond_true, cond_false, decide_true, decide_false, true_imp_iff, implies_true, Int.cast_ofNat_Int, forall_eq']
  simp only [↓EVP0, EVQ0, EVQ1, EVQ2, EVQ3, EVQ4, EVA, EVK, EVFR, ↓reduceIte, Nat.reduceEqDiff, Nat.reduceAdd, Nat.reduceSub, Nat.reduceMul, Nat.reduceLT, Nat.reduceLeDiff, reduceCtorEq, Int.reduceToNat, Int.reduceLT, Int.reduceLE, Int.reduceAdd, Int.reduceSub, Int.reduceMul, Int.reduceNeg, Int.reduceEq, Nat.reduceMod, forall_eq_or_imp, forall_eq, forall_const, cond_true, cond_false, decide_true, decide_false, true_imp_iff, implies_true, Int.cast_ofNat_Int, forall_eq']
  first | refine qCallK_ro (f2) ?_ ?_ | refine eCallK_ro (f2) ?_ ?_
  · simp only [↓EVP0, EVQ0, EVQ1, EVQ2, EVQ3, EVQ4, EVA, EVK, EVFR, ↓reduceIte, Nat.reduceEqDiff, Nat.reduceAdd, Nat.reduceSub, Nat.reduceMul, Nat.reduceLT, Nat.reduceLeDiff, reduceCtorEq, Int.reduceToNat, Int.reduceLT, Int.reduceLE, Int.reduceAdd, Int.reduceSub, Int.reduceMul, Int.reduceNeg, Int.reduceEq, Nat.reduceMod, forall_eq_or_imp, forall_eq, forall_const, cond_true, cond_false, decide_true, decide_false, true_imp_iff, implies_true, Int.cast_ofNat_Int, forall_eq']
  simp only [↓EVP0, EVQ0, EVQ1, EVQ2, EVQ3, EVQ4, EVA, EVK, EVFR, ↓reduceIte, Nat.reduceEqDiff, Nat.reduceAdd, Nat.reduceSub, Nat.reduceMul, Nat.reduceLT, Nat.reduceLeDiff, reduceCtorEq, Int.reduceToNat, Int.reduceLT, Int.reduceLE, Int.reduceAdd, Int.reduceSub, Int.reduceMul, Int.reduceNeg, Int.reduceEq, Nat.reduceMod, forall_eq_or_imp, forall_eq, forall_const, cond_true, cond_false, decide_true, decide_false, true_imp_iff, implies_true, Int.cast_ofNat_Int, forall_eq']
  unfold In64 cmpE cmpI
  refine ⟨by omega, by omega, fun h => ?_, fun h => ⟨fun h2 => ?_, fun h2 => ?_⟩⟩
  all_goals simp only [decide_eq_true_eq, decide_eq_false_iff_not] at *
  · rw [if_pos h]
  · rw [if_neg h, if_neg (by omega)]
  · rw [if_neg h, if_pos (by omega)]
end Go.Proofs.YtdfiicpikcdokaaDoor
namespace Go.Proofs.YtdfiicpikcdokaaDoor
set_option linter.unusedSimpArgs false
set_option linter.unusedVariables false
open Go.RowKit
set_option maxRecDepth 100000

theorem el_rat {d : Nat} {ls : List LV} (h : fitT Tryd.prog d 30 ls) : ∃ r : Rt, ls = rtL r ∧ RtOk r := by
  obtain ⟨h1, d', h2⟩ := fit_flat Tryd.underlying30 (n := 2) (by kernel_rfl) (by kernel_rfl) h
  obtain ⟨a, b, rfl⟩ : ∃ a b, ls = [a, b] := by
    match ls, h1 with
    | [a, b], _ => exact ⟨a, b, rfl⟩
  obtain ⟨x, hx, h3⟩ := h2 0 _ rfl
  obtain ⟨y, hy, h4⟩ := h2 1 _ rfl
  simp at hx hy
  subst hx; subst hy
  obtain ⟨i1, k1, j1⟩ := fit_i64 Tryd.underlying3 h3
  obtain ⟨i2, k2, j2⟩ := fit_i64 Tryd.underlying3 h4
  simp only [List.cons.injEq, and_true] at k1 k2
  subst k1; subst k2
  exact ⟨⟨i1, i2⟩, rfl, j1, j2⟩
theorem arg_rat {lv : LV} (h : fitA Tryd.prog 30 lv) : ∃ r : Rt, lv = ratV r ∧ RtOk r := by
  obtain ⟨ls, rfl, h1⟩ := arg_agg (by kernel_rfl) h
  obtain ⟨r, rfl, h2⟩ := el_rat h1
  exact ⟨r, rfl, h2⟩
theorem arg_rats {lv : LV} (h : fitA Tryd.prog 22 lv) : ∃ l : List Rt, Im lv (ratsV l) ∧ (∀ r, r ∈ l → RtOk r) ∧ l.length ≤ maxLen := by
  obtain ⟨d', n, f, h1, h2, h3⟩ := fit_sl Tryd.underlying22 (arg_cell (by kernel_rfl) h)
  have hall : ∀ i, ∃ x : Rt, i < n → f i = rtL x ∧ RtOk x := by
    intro i
    by_cases hi : i < n
    · obtain ⟨x, h4⟩ := el_rat (h3 i hi)
      exact ⟨x, fun _ => h4⟩
    · exact ⟨default, fun h => absurd h hi⟩
  obtain ⟨g, hg⟩ := Classical.axiomOfChoice hall
  simp only [List.cons.injEq, and_true] at h1
  subst h1
  refine ⟨listOf n g, ?_, fun x hx => ?_, by rw [listOf_len]; exact h2⟩
  · unfold ratsV
    rw [listOf_len]
    refine Im.rsl fun i hi => ?_
    rw [(hg i hi).1]
    show rtL (g i) = rtL ((listOf n g).getD i default)
    rw [listOf_get n g default hi]
  · obtain ⟨i, hi, rfl⟩ := listOf_mem hx
    exact (hg i hi).2
end Go.Proofs.YtdfiicpikcdokaaDoor
namespace Go.Proofs.YtdfiicpikcdokaaDoor
set_option linter.unusedSimpArgs false
set_option linter.unusedVariables false
open Go.RowKit
set_option maxRecDepth 20000

theorem add_ex : addR ⟨3, 4⟩ ⟨5, 6⟩ = (⟨19, 12⟩, 0) := by kernel_rfl
theorem div_ex : divR ⟨3, 4⟩ ⟨-3, 2⟩ = (⟨-1, 2⟩, 0) := by kernel_rfl
theorem flr_ex : flr ⟨-7, 2⟩ = -4 := by kernel_rfl
theorem rtOk_ex (a b : Int) (ha : In64 a) (hb : In64 b) : RtOk ⟨a, b⟩ := ⟨ha, hb⟩
def isB (r : Rt) (e : Int) (w : Rt) (f : Int) : Bool := decide (e = f) && (decide (r.n = w.n) && decide (r.d = w.d))
theorem is_refl (q : Rt × Int) : isB q.1 q.2 q.1 q.2 = true := by simp [isB]
def smallB (l : List Int) : Bool := l.all fun x => decide (-536870912 ≤ x) && decide (x ≤ 536870912)
theorem small_mem {l : List Int} (h : smallB l = true) {x : Int} (hx : x ∈ l) : In29 x := by
  unfold smallB at h
  rw [List.all_eq_true] at h
  have := h x hx
  simp only [Bool.and_eq_true, decide_eq_true_eq] at this
  exact this
end Go.Proofs.YtdfiicpikcdokaaDoor
namespace Go.Proofs.YtdfiicpikcdokaaDoor
set_option linter.unusedSimpArgs false
set_option linter.unusedVariables false
open Go.RowKit
set_option maxRecDepth 20000

theorem addR_comm (a b : Rt) : addR a b = addR b a := by
  unfold addR
  by_cases h1 : vldR a = true <;> by_cases h2 : vldR b = true <;> simp [h1, h2]
  exact addE_comm _ _
theorem mulR_comm (a b : Rt) : mulR a b = mulR b a := by
  unfold mulR
  by_cases h1 : vldR a = true <;> by_cases h2 : vldR b = true <;> simp [h1, h2]
  exact mulE_comm _ _
theorem addR_v {a b : Rt} (h : (addR a b).2 = 0) : vldR a = true ∧ vldR b = true ∧ addR a b = addE (nrmR a) (nrmR b) ∧ Low (addR a b).1 := by
  by_cases hv : vldR a = true ∧ vldR b = true
  · have e : addR a b = addE (nrmR a) (nrmR b) := by unfold addR; rw [if_pos hv]
    rw [e] at h ⊢
    exact ⟨hv.1, hv.2, rfl, (addE_fr (vld_low hv.1) (vld_low hv.2) h).1⟩
  · unfold addR at h; rw [if_neg hv] at h; simp at h
theorem mulR_v {a b : Rt} (h : (mulR a b).2 = 0) : vldR a = true ∧ vldR b = true ∧ mulR a b = mulE (nrmR a) (nrmR b) ∧ Low (mulR a b).1 := by
  by_cases hv : vldR a = true ∧ vldR b = true
  · have e : mulR a b = mulE (nrmR a) (nrmR b) := by unfold mulR; rw [if_pos hv]
    rw [e] at h ⊢
    exact ⟨hv.1, hv.2, rfl, (mulE_fr (vld_low hv.1) (vld_low hv.2) h).1⟩
  · unfold mulR at h; rw [if_neg hv] at h; simp at h
theorem addR_E {a b : Rt} (ha : vldR a = true) (hb : vldR b = true) : addR a b = addE (nrmR a) (nrmR b) := by unfold addR; rw [if_pos ⟨ha, hb⟩]
theorem mulR_E {a b : Rt} (ha : vldR a = true) (hb : vldR b = true) : mulR a b = mulE (nrmR a) (nrmR b) := by unfold mulR; rw [if_pos ⟨ha, hb⟩]
theorem addR_assoc {a b c : Rt} (h : (addR a b).2 = 0) (k : (addR b c).2 = 0) : addR (addR a b).1 c = addR a (addR b c).1 := by
  obtain ⟨va, vb, e1, l1⟩ := addR_v h
  obtain ⟨_, vc, e2, l2⟩ := addR_v k
  rw [addR_E (low_vld l1).1 vc, addR_E va (low_vld l2).1, (low_vld l1).2, (low_vld l2).2]
  rw [e1] at h ⊢
  rw [e2] at k ⊢
  exact addE_assoc (vld_low va) (vld_low vb) (vld_low vc) h k
theorem mulR_assoc {a b c : Rt} (h : (mulR a b).2 = 0) (k : (mulR b c).2 = 0) : mulR (mulR a b).1 c = mulR a (mulR b c).1 := by
  obtain ⟨va, vb, e1, l1⟩ := mulR_v h
  obtain ⟨_, vc, e2, l2⟩ := mulR_v k
  rw [mulR_E (low_vld l1).1 vc, mulR_E va (low_vld l2).1, (low_vld l1).2, (low_vld l2).2]
  rw [e1] at h ⊢
  rw [e2] at k ⊢
  exact mulE_assoc (vld_low va) (vld_low vb) (vld_low vc) h k
theorem mulR_addR {a b c : Rt} (h : (addR b c).2 = 0) (k : (mulR a b).2 = 0) (l : (mulR a c).2 = 0) : mulR a (addR b c).1 = addR (mulR a b).1 (mulR a c).1 := by
  obtain ⟨vb, vc, e1, l1⟩ := addR_v h
  obtain ⟨va, _, e2, l2⟩ := mulR_v k
  obtain ⟨_, _, e3, l3⟩ := mulR_v l
  rw [mulR_E va (low_vld l1).1, addR_E (low_vld l2).1 (low_vld l3).1, (low_vld l1).2, (low_vld l2).2, (low_vld l3).2]
  rw [e1] at h ⊢
  rw [e2] at k ⊢
  rw [e3] at l ⊢
  exact mulE_addE (vld_low va) (vld_low vb) (vld_low vc) h k l
theorem mulR_okRt (a b : Rt) : RtOk (mulR a b).1 := by
  unfold mulR
  split
  · rcases low_ok (x := (nrmR a).n * (nrmR b).n) (y := (nrmR a).d.natAbs * (nrmR b).d.natAbs) (Nat.mul_pos (by rename_i h; have := (vld_low h.1).1; omega) (by rename_i h; have := (vld_low h.2).1; omega)) with ⟨_, h, _⟩ | h
    · unfold Low at h; unfold RtOk In64 mulE; omega
    · unfold mulE; rw [h]; unfold RtOk In64; simp
  · unfold RtOk In64; simp
theorem sumR_okRt : ∀ (l : List Rt) (s : Rt), RtOk s → RtOk (sumR l s).1
  | [], s, h => h
  | r :: l, s, h => by
    unfold sumR
    split
    · exact sumR_okRt l _ (addR_okRt _ _)
    · unfold RtOk In64; simp
end Go.Proofs.YtdfiicpikcdokaaDoor
namespace Go.Proofs.YtdfiicpikcdokaaDoor
set_option linter.unusedSimpArgs false
set_option linter.unusedVariables false
open Go.RowKit
set_option maxRecDepth 20000

theorem vld_cases {b : Rt} (h : vldR b = true) : b = ⟨0, 0⟩ ∨ (Low b ∧ nrmR b = b) := by
  have hl := vld_low h
  unfold nrmR at *
  split at hl
  · rename_i hd
    left
    unfold vldR at h
    simp only [Bool.or_eq_true, Bool.and_eq_true, decide_eq_true_eq] at h
    obtain ⟨n, d⟩ := b
    simp only at *
    rcases h with h | h
    · rw [h.1, h.2]
    · omega
  · rename_i hd
    exact .inr ⟨hl, by rw [if_neg hd]⟩
theorem neg_nrm {b : Rt} (h : vldR b = true) : vldR (negR b) = true ∧ nrmR (negR b) = negR (nrmR b) := by
  rcases vld_cases h with rfl | ⟨h1, h2⟩
  · exact ⟨by decide, by decide⟩
  · have := low_vld (negR_low h1)
    rw [h2]; exact this
theorem subR_E {a b : Rt} (ha : vldR a = true) (hb : vldR b = true) : subR a b = addE (nrmR a) (negR (nrmR b)) := by
  unfold subR
  rw [if_pos ⟨ha, hb⟩, addR_E ha (neg_nrm hb).1, (neg_nrm hb).2]
theorem subR_undo {a b : Rt} (h : (addR a b).2 = 0) : subR (addR a b).1 b = (nrmR a, 0) := by
  obtain ⟨va, vb, e1, l1⟩ := addR_v h
  rw [subR_E (low_vld l1).1 vb, (low_vld l1).2]
  rw [e1] at h ⊢
  exact addE_sub (vld_low va) (vld_low vb) h
theorem divR_E {a b : Rt} (ha : vldR a = true) (hb : vldR b = true) (h0 : b.n ≠ 0) : divR a b = mulE (nrmR a) (invR (nrmR b)) := by
  rcases vld_cases hb with rfl | ⟨h1, h2⟩
  · simp at h0
  unfold divR
  rw [if_pos ⟨ha, hb⟩, if_neg h0, h2]
  have hi := (invR_low h1 h0).1
  unfold invR at hi ⊢
  split
  · rename_i hn
    rw [if_pos hn] at hi
    rw [mulR_E ha (low_vld hi).1, (low_vld hi).2]
  · rename_i hn
    rw [if_neg hn] at hi
    rw [mulR_E ha (low_vld hi).1, (low_vld hi).2]
theorem divR_undo {a b : Rt} (h : (mulR a b).2 = 0) (h0 : b.n ≠ 0) : divR (mulR a b).1 b = (nrmR a, 0) := by
  obtain ⟨va, vb, e1, l1⟩ := mulR_v h
  rw [divR_E (low_vld l1).1 vb h0, (low_vld l1).2]
  rw [e1] at h ⊢
  refine mulE_div (vld_low va) (vld_low vb) ?_ h
  rcases vld_cases vb with rfl | ⟨h1, h2⟩
  · simp at h0
  · rw [h2]; exact h0
theorem cmpR_nrm {a : Rt} (va : vldR a = true) : cmpR (nrmR a) a = 0 := by
  have := low_vld (vld_low va)
  unfold cmpR
  rw [if_pos ⟨this.1, va⟩, this.2]
  exact cmpE_self _
theorem addR_err {a b : Rt} (va : vldR a = true) (vb : vldR b = true) (h : (addR a b).2 ≠ 0) : addR a b = (⟨0, 0⟩, 10) := by
  rw [addR_E va vb] at h ⊢
  rcases low_ok (x := (nrmR a).n * (nrmR b).d + (nrmR b).n * (nrmR a).d) (pos2 (vld_low va) (vld_low vb)) with h1 | h1
  · exact absurd h1.1 h
  · exact h1
theorem mulR_err {a b : Rt} (va : vldR a = true) (vb : vldR b = true) (h : (mulR a b).2 ≠ 0) : mulR a b = (⟨0, 0⟩, 10) := by
  rw [mulR_E va vb] at h ⊢
  rcases low_ok (x := (nrmR a).n * (nrmR b).n) (pos2 (vld_low va) (vld_low vb)) with h1 | h1
  · exact absurd h1.1 h
  · exact h1
theorem mulR_zero {a b : Rt} (va : vldR a = true) (vb : vldR b = true) (h : b.n = 0) : mulR a b = (⟨0, 1⟩, 0) := by
  rw [mulR_E va vb]
  have : (nrmR b).n = 0 := by unfold nrmR; split <;> exact h
  unfold mulE
  rw [this, Int.mul_zero, low_zero]
theorem nrm_low_ok {a : Rt} (va : vldR a = true) : RtOk (nrmR a) := by
  have := vld_low va
  unfold Low at this
  unfold RtOk In64; omega
end Go.Proofs.YtdfiicpikcdokaaDoor
namespace Go.Proofs.YtdfiicpikcdokaaDoor
set_option linter.unusedSimpArgs false
set_option linter.unusedVariables false
open Go.RowKit
set_option maxRecDepth 20000

theorem lopsQ_ge {P : Program} {K : LS → Prop} {d : Option Nat} {t : Nat} {b : Bool} {q : LEf} {s : LS} {h : LH} (hx : evk (s t) (fun gv => gOk gv ∧ evb (gOf b gv) (fun g => Br g (lopsQ P ⟨d, none, .e q⟩ K s h) (K (updO s d .any))))) : @lopsQG P d t b q ⟨K⟩ s h := by
  show lopsQ P ⟨d, some (t, b), .e q⟩ K s h
  simp only [evk, evb] at hx
  obtain ⟨h1, h2⟩ := hx
  by_cases hg : gOf b (s t) = true
  · obtain ⟨v, h3, h4⟩ := h2.1 hg
    exact ⟨v, ⟨h1, .inl ⟨hg, h3⟩⟩, h4⟩
  · have hg' : gOf b (s t) = false := by simpa using hg
    exact ⟨_, ⟨h1, .inr (.inl ⟨hg', rfl, rfl⟩)⟩, h2.2 hg'⟩
theorem cmpR_E {a b : Rt} (ha : vldR a = true) (hb : vldR b = true) : cmpR a b = cmpE (nrmR a) (nrmR b) := by unfold cmpR; rw [if_pos ⟨ha, hb⟩]
theorem cmpR_no {a b : Rt} (h : ¬ (vldR a = true ∧ vldR b = true)) : cmpR a b = 0 := by unfold cmpR; rw [if_neg h]
theorem cmpR_add {a b c : Rt} (h : (addR a c).2 = 0) (k : (addR b c).2 = 0) : cmpR (addR a c).1 (addR b c).1 = cmpR a b := by
  obtain ⟨va, vc, e1, l1⟩ := addR_v h
  obtain ⟨vb, _, e2, l2⟩ := addR_v k
  rw [cmpR_E (low_vld l1).1 (low_vld l2).1, cmpR_E va vb, (low_vld l1).2, (low_vld l2).2]
  rw [e1] at h ⊢
  rw [e2] at k ⊢
  exact cmpE_add (vld_low va) (vld_low vb) (vld_low vc) h k
theorem flr_E {r : Rt} (v : vldR r = true) : flr r = (nrmR r).n / (nrmR r).d := by unfold flr; rw [if_pos v]
theorem int_vld {n : Int} (h : -1152921504606846976 ≤ n ∧ n ≤ 1152921504606846976) : vldR ⟨n, 1⟩ = true ∧ nrmR ⟨n, 1⟩ = ⟨n, 1⟩ := by
  refine low_vld ⟨by simp, by simp, h.1, h.2, ?_⟩
  exact Nat.coprime_one_right _
theorem sm_In63 {a : Rt} (h : Sm a) : In63 a.n := by have := h.2.1; unfold In29 at this; unfold In63; omega
theorem neg_sm {b : Rt} (h : Sm b) : Sm (negR b) := by
  obtain ⟨h1, h2, h3⟩ := h
  refine ⟨(neg_nrm h1).1, ?_, h3⟩
  unfold In29 negR at *; simp only; omega
theorem ofR_pos {x y : Int} (h : 0 < y) : ofR x y = low x y.natAbs := by
  unfold ofR; rw [if_neg (by omega), if_neg (by omega)]; rfl
theorem ofR_neg {x y : Int} (h : y < 0) : ofR x y = low (-x) y.natAbs := by
  unfold ofR; rw [if_neg (by omega), if_pos h]; rfl
theorem natAbs_mul' (x y : Int) : (x * y).natAbs = x.natAbs * y.natAbs := Int.natAbs_mul x y
theorem add_ref {a b : Rt} (va : vldR a = true) (vb : vldR b = true) : addR a b = ofR ((fullR a).n * (fullR b).d + (fullR b).n * (fullR a).d) ((fullR a).d * (fullR b).d) := by
  rw [addR_E va vb, full_nrm va, full_nrm vb, ofR_pos (Int.mul_pos (by have := (vld_low va).1; omega) (by have := (vld_low vb).1; omega)), natAbs_mul']; rfl
theorem sub_ref {a b : Rt} (va : vldR a = true) (vb : vldR b = true) : subR a b = addR a (negR b) := by
  unfold subR; rw [if_pos ⟨va, vb⟩]
theorem mul_ref {a b : Rt} (va : vldR a = true) (vb : vldR b = true) : mulR a b = ofR ((fullR a).n * (fullR b).n) ((fullR a).d * (fullR b).d) := by
  rw [mulR_E va vb, full_nrm va, full_nrm vb, ofR_pos (Int.mul_pos (by have := (vld_low va).1; omega) (by have := (vld_low vb).1; omega)), natAbs_mul']; rfl
theorem div_ref {a b : Rt} (va : vldR a = true) (vb : vldR b = true) : divR a b = ofR ((fullR a).n * (fullR b).d) ((fullR a).d * (fullR b).n) := by
  by_cases h0 : b.n = 0
  · have e1 : divR a b = (⟨0, 0⟩, 2) := by unfold divR; rw [if_pos ⟨va, vb⟩, if_pos h0]
    have e2 : (fullR b).n = 0 := by unfold fullR; split; · rfl
                                    · exact h0
    rw [e1, e2, Int.mul_zero]; rfl
  · rw [divR_E va vb h0, full_nrm va, full_nrm vb]
    have la := vld_low va
    have lb := vld_low vb
    have hn0 : (nrmR b).n ≠ 0 := by
      rcases vld_cases vb with rfl | ⟨_, h2⟩
      · simp at h0
      · rw [h2]; exact h0
    generalize nrmR a = A at *
    generalize nrmR b = B at *
    have pa : 0 < A.d := by have := la.1; omega
    unfold mulE invR
    by_cases hn : B.n < 0
    · rw [if_pos hn, ofR_neg (Int.mul_neg_of_pos_of_neg pa hn), natAbs_mul']
      simp only
      rw [show (0 - B.n).natAbs = B.n.natAbs by omega, show A.n * (0 - B.d) = -(A.n * B.d) by grind]
    · rw [if_neg hn, ofR_pos (Int.mul_pos pa (by omega)), natAbs_mul']
theorem subR_okRt (a b : Rt) : RtOk (subR a b).1 := by
  unfold subR
  split
  · exact addR_okRt _ _
  · unfold RtOk In64; simp
theorem divR_okRt (a b : Rt) : RtOk (divR a b).1 := by
  unfold divR
  split
  · split
    · unfold RtOk In64; simp
    · split <;> exact mulR_okRt _ _
  · unfold RtOk In64; simp
end Go.Proofs.YtdfiicpikcdokaaDoor
