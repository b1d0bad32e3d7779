/- Distances by relaxing all cables again and again: the plain law, and the reference's levels. Conditions: none. -/
import Derived.Test.YtggaonafmiklaaaGL
namespace Go.Proofs.Ytggaonafmiklaaa
set_option linter.unusedSimpArgs false
set_option linter.unusedVariables false
open Go.RowKit

def rlx (m : List Int) (a b : Int) : List Int :=
  bif decide (0 ≤ lvl m a) && (decide (lvl m b < 0) || decide (lvl m a + 1 < lvl m b)) then m.set b.toNat (lvl m a + 1) else m
def rlxC (m : List Int) (c : Cb) (on : Bool) : List Int := bif on then rlx (rlx m c.a c.b) c.b c.a else m
def rlxP (cs : List Cb) (up : List Bool) (m : List Int) : Nat → List Int
  | 0 => m
  | i + 1 => rlxC (rlxP cs up m i) (cs.getD i default) (up.getD i false)
def rlxN (cs : List Cb) (up : List Bool) (m : List Int) : Nat → List Int
  | 0 => m
  | i + 1 => rlxP cs up (rlxN cs up m i) cs.length
def lvl0 (n : Nat) (r : Int) : List Int := (List.replicate n (-1)).set r.toNat 0

theorem rlx_len (m : List Int) (a b : Int) : (rlx m a b).length = m.length := by
  unfold rlx; cases decide (0 ≤ lvl m a) && (decide (lvl m b < 0) || decide (lvl m a + 1 < lvl m b)) <;> simp
theorem rlxC_len (m : List Int) (c : Cb) (on : Bool) : (rlxC m c on).length = m.length := by
  unfold rlxC; cases on <;> simp [rlx_len]
theorem rlxP_len (cs : List Cb) (up : List Bool) (m : List Int) (i : Nat) : (rlxP cs up m i).length = m.length := by
  induction i with
  | zero => rfl
  | succ i ih => simp only [rlxP, rlxC_len, ih]
theorem rlxN_len (cs : List Cb) (up : List Bool) (m : List Int) (i : Nat) : (rlxN cs up m i).length = m.length := by
  induction i with
  | zero => rfl
  | succ i ih => simp only [rlxN, rlxP_len, ih]
theorem lvl_set {m : List Int} {x y : Int} {n : Nat} (hl : m.length = n) (hx : inN n x) (hy : inN n y) (v : Int) : lvl (m.set y.toNat v) x = if x = y then v else lvl m x := by
  unfold lvl
  unfold inN at hx hy
  by_cases e : x = y
  · subst e
    rw [if_pos rfl, List.getD_eq_getElem?_getD, List.getElem?_set_self (by omega)]; rfl
  · rw [if_neg e, List.getD_eq_getElem?_getD, List.getElem?_set_ne (by omega), ← List.getD_eq_getElem?_getD]

/-- What relaxing keeps: B bounds all levels. -/
structure RInv (n : Nat) (U : List Cb) (r : Int) (B : Nat) (m : List Int) : Prop where
  len : m.length = n
  snd : ∀ x, inN n x → lvl m x = -1 ∨ (0 ≤ lvl m x ∧ lvl m x ≤ B ∧ W U r (lvl m x).toNat x = true)
/-- No level gets worse. -/
def Better (n : Nat) (m m' : List Int) : Prop := ∀ x (k : Int), inN n x → 0 ≤ lvl m x → lvl m x ≤ k → 0 ≤ lvl m' x ∧ lvl m' x ≤ k
theorem Better.refl (n : Nat) (m : List Int) : Better n m m := fun _ _ _ h1 h2 => ⟨h1, h2⟩
theorem Better.trans {n : Nat} {m m' m2 : List Int} (a : Better n m m') (b : Better n m' m2) : Better n m m2 := fun x k hx h1 h2 => b x k hx (a x k hx h1 h2).1 (a x k hx h1 h2).2
theorem rlx_ok {n : Nat} {U : List Cb} {r a b : Int} {B : Nat} {m : List Int} (h : RInv n U r B m) (ha : inN n a) (hb : inN n b) (hn : nbr U a b) :
    RInv n U r (B + 1) (rlx m a b) ∧ Better n m (rlx m a b) ∧ ∀ k : Int, 0 ≤ lvl m a → lvl m a ≤ k → 0 ≤ lvl (rlx m a b) b ∧ lvl (rlx m a b) b ≤ k + 1 := by
  have sa := h.snd a ha
  have sb := h.snd b hb
  unfold rlx
  cases hc : decide (0 ≤ lvl m a) && (decide (lvl m b < 0) || decide (lvl m a + 1 < lvl m b))
  · rw [cond_false]
    refine ⟨⟨h.len, fun x hx => ?_⟩, Better.refl _ _, fun k h1 h2 => ?_⟩
    · rcases h.snd x hx with h1 | ⟨h1, h2, h3⟩
      · exact .inl h1
      · exact .inr ⟨h1, by omega, h3⟩
    · simp at hc; omega
  · rw [cond_true]
    simp at hc
    have hWa : W U r (lvl m a).toNat a = true := by
      rcases sa with h1 | ⟨_, _, h3⟩
      · omega
      · exact h3
    refine ⟨⟨by simp [h.len], fun x hx => ?_⟩, fun x k hx h1 h2 => ?_, fun k h1 h2 => ?_⟩
    · rw [lvl_set h.len hx hb]
      by_cases e : x = b
      · subst e
        rw [if_pos rfl]
        refine .inr ⟨by omega, by omega, ?_⟩
        rw [show (lvl m a + 1).toNat = (lvl m a).toNat + 1 by omega]
        exact W_succ.2 (.inr ⟨a, hn, hWa⟩)
      · rw [if_neg e]
        rcases h.snd x hx with h1 | ⟨h1, h2, h3⟩
        · exact .inl h1
        · exact .inr ⟨h1, by omega, h3⟩
    · rw [lvl_set h.len hx hb]
      by_cases e : x = b
      · subst e; rw [if_pos rfl]; omega
      · rw [if_neg e]; exact ⟨h1, h2⟩
    · rw [lvl_set h.len hb hb, if_pos rfl]; omega
theorem rlxC_ok {n : Nat} {U : List Cb} {r : Int} {B : Nat} {m : List Int} {c : Cb} {on : Bool} (h : RInv n U r B m) (ha : inN n c.a) (hb : inN n c.b) (hn : on = true → c ∈ U) :
    RInv n U r (B + 2) (rlxC m c on) ∧ Better n m (rlxC m c on) ∧ (on = true → ∀ k : Int, (0 ≤ lvl m c.a → lvl m c.a ≤ k → 0 ≤ lvl (rlxC m c on) c.b ∧ lvl (rlxC m c on) c.b ≤ k + 1) ∧
      (0 ≤ lvl m c.b → lvl m c.b ≤ k → 0 ≤ lvl (rlxC m c on) c.a ∧ lvl (rlxC m c on) c.a ≤ k + 1)) := by
  cases on
  · simp only [rlxC, cond_false]
    refine ⟨⟨h.len, fun x hx => ?_⟩, Better.refl _ _, fun h => by simp at h⟩
    rcases h.snd x hx with h1 | ⟨h1, h2, h3⟩
    · exact .inl h1
    · exact .inr ⟨h1, by omega, h3⟩
  · have hc := hn rfl
    obtain ⟨g1, g2, g3⟩ := rlx_ok h ha hb ⟨c, hc, .inl ⟨rfl, rfl⟩⟩
    obtain ⟨k1, k2, k3⟩ := rlx_ok g1 hb ha ⟨c, hc, .inr ⟨rfl, rfl⟩⟩
    refine ⟨k1, g2.trans k2, fun _ k => ⟨fun h1 h2 => ?_, fun h1 h2 => ?_⟩⟩
    · have := g3 k h1 h2
      exact k2 c.b (k + 1) hb this.1 this.2
    · have := g2 c.b k hb h1 h2
      exact k3 k this.1 this.2
theorem rlxP_ok {n : Nat} {cs : List Cb} {up : List Bool} {r : Int} {B : Nat} {m : List Int} (h : RInv n (upU cs up) r B m) (hc : ∀ c, c ∈ cs → inN n c.a ∧ inN n c.b) :
    ∀ i, i ≤ cs.length → RInv n (upU cs up) r (B + 2 * i) (rlxP cs up m i) ∧ Better n m (rlxP cs up m i) ∧
      ∀ a b, nbr (upP cs up i) a b → ∀ k : Int, 0 ≤ lvl m a → lvl m a ≤ k → 0 ≤ lvl (rlxP cs up m i) b ∧ lvl (rlxP cs up m i) b ≤ k + 1 := by
  intro i
  induction i with
  | zero =>
    intro _
    refine ⟨h, Better.refl _ _, fun a b hn => ?_⟩
    obtain ⟨c, hc, _⟩ := hn
    simp [upP] at hc
  | succ i ih =>
    intro hi
    obtain ⟨g1, g2, g3⟩ := ih (by omega)
    have hm : cs.getD i default ∈ cs := by rw [List.getD_eq_getElem?_getD, List.getElem?_eq_getElem (by omega)]; exact List.getElem_mem _
    obtain ⟨ca, cb⟩ := hc _ hm
    have hU : up.getD i false = true → cs.getD i default ∈ upU cs up := fun hu => upP_mem.2 ⟨i, by omega, hu, rfl⟩
    obtain ⟨k1, k2, k3⟩ := rlxC_ok (c := cs.getD i default) (on := up.getD i false) g1 ca cb hU
    refine ⟨?_, g2.trans k2, fun a b hn k h1 h2 => ?_⟩
    · have : B + 2 * (i + 1) = B + 2 * i + 2 := by omega
      rw [this]; exact k1
    · obtain ⟨c, hcm, hab⟩ := hn
      obtain ⟨j, hj, hu, rfl⟩ := upP_mem.1 hcm
      by_cases e : j = i
      · subst e
        have k4 := k3 hu k
        rcases hab with ⟨rfl, rfl⟩ | ⟨rfl, rfl⟩
        · have := g2 _ k ca h1 h2
          exact k4.1 this.1 this.2
        · have := g2 _ k cb h1 h2
          exact k4.2 this.1 this.2
      · have hn' : nbr (upP cs up i) a b := ⟨_, upP_mem.2 ⟨j, by omega, hu, rfl⟩, hab⟩
        have h3 := g3 a b hn' k h1 h2
        have hbn : inN n b := by
          have := hc (cs.getD j default) (by rw [List.getD_eq_getElem?_getD, List.getElem?_eq_getElem (by omega)]; exact List.getElem_mem _)
          rcases hab with ⟨_, rfl⟩ | ⟨_, rfl⟩
          · exact this.2
          · exact this.1
        exact k2 b (k + 1) hbn h3.1 h3.2
theorem rlxN_ok {n : Nat} {cs : List Cb} {up : List Bool} {r : Int} (hr : inN n r) (hc : ∀ c, c ∈ cs → inN n c.a ∧ inN n c.b) :
    ∀ i, RInv n (upU cs up) r (i * (2 * cs.length)) (rlxN cs up (lvl0 n r) i) ∧ ∀ k x, k ≤ i → inN n x → W (upU cs up) r k x = true → 0 ≤ lvl (rlxN cs up (lvl0 n r) i) x ∧ lvl (rlxN cs up (lvl0 n r) i) x ≤ k := by
  intro i
  induction i with
  | zero =>
    have hl : ∀ x, inN n x → lvl (lvl0 n r) x = if x = r then 0 else -1 := by
      intro x hx
      unfold lvl0
      rw [lvl_set (n := n) (by simp) hx hr]
      by_cases e : x = r
      · rw [if_pos e, if_pos e]
      · rw [if_neg e, if_neg e]
        unfold lvl inN at *
        rw [List.getD_eq_getElem?_getD, List.getElem?_replicate, if_pos (by omega)]; rfl
    refine ⟨⟨by simp [rlxN, lvl0], fun x hx => ?_⟩, fun k x hk hx hw => ?_⟩
    · simp only [rlxN]
      rw [hl x hx]
      by_cases e : x = r
      · rw [if_pos e]; exact .inr ⟨by omega, by omega, by simp [W, e]⟩
      · rw [if_neg e]; exact .inl rfl
    · have : k = 0 := by omega
      subst this
      simp only [W, decide_eq_true_eq] at hw
      simp only [rlxN]
      rw [hl x hx, if_pos hw]; omega
  | succ i ih =>
    obtain ⟨g1, g2⟩ := ih
    obtain ⟨k1, k2, k3⟩ := rlxP_ok g1 hc cs.length (Nat.le_refl _)
    refine ⟨?_, fun k x hk hx hw => ?_⟩
    · have : (i + 1) * (2 * cs.length) = i * (2 * cs.length) + 2 * cs.length := Nat.succ_mul _ _
      rw [this]; exact k1
    · simp only [rlxN]
      cases k with
      | zero =>
        have := g2 0 x (by omega) hx hw
        exact k2 x _ hx this.1 this.2
      | succ k =>
        rcases W_succ.1 hw with h1 | ⟨z, hz, h1⟩
        · have := g2 k x (by omega) hx h1
          exact k2 x _ hx this.1 (by omega)
        · have hzn := (nbr_in (upU_in hc) hz).1
          have := g2 k z (by omega) hzn h1
          have := k3 z x hz k this.1 this.2
          exact ⟨this.1, by omega⟩
theorem rlxN_dist {n : Nat} {cs : List Cb} {up : List Bool} {r : Int} (hr : inN n r) (hc : ∀ c, c ∈ cs → inN n c.a ∧ inN n c.b) : rlxN cs up (lvl0 n r) n = distL n (upU cs up) r := by
  obtain ⟨g1, g2⟩ := rlxN_ok (up := up) hr hc n
  refine getD_len (by rw [g1.len, distL_length]) fun i hi => ?_
  have hi' : i < n := by rw [g1.len] at hi; exact hi
  rw [distL_getD hi']
  have hx : inN n (i : Int) := ⟨by omega, by omega⟩
  have hs := g1.snd i hx
  have hl : lvl (rlxN cs up (lvl0 n r) n) (i : Int) = (rlxN cs up (lvl0 n r) n).getD i 0 := rfl
  rw [hl] at hs
  rcases distX_cases (upU_in (up := up) hc) hr (i : Int) with ⟨h1, h2⟩ | ⟨k, h1, h2, h3, h4⟩
  · rw [h1]
    rcases hs with h5 | ⟨_, _, h5⟩
    · exact h5
    · rw [h2] at h5; simp at h5
  · rw [h1]
    have g3 := g2 k i (by omega) hx h3
    rw [hl] at g3
    rcases hs with h5 | ⟨h5, _, h6⟩
    · omega
    · by_cases e : ((rlxN cs up (lvl0 n r) n).getD i 0).toNat < k
      · rw [h4 _ e] at h6; simp at h6
      · omega
end Go.Proofs.Ytggaonafmiklaaa
