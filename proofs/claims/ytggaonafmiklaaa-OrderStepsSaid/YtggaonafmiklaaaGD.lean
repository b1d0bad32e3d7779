/- Distances in a plan: the plain law of the search by a queue. Conditions: none. -/
import Derived.Test.YtggaonafmiklaaaGC
namespace Go.Proofs.Ytggaonafmiklaaa
set_option linter.unusedSimpArgs false
set_option linter.unusedVariables false
open Go.RowKit

/-- Which nodes are within so many steps of a root, over a list of cables. -/
def W (U : List Cb) (r : Int) : Nat → Int → Bool
  | 0, x => decide (x = r)
  | k + 1, x => W U r k x || U.any fun c => (decide (c.b = x) && W U r k c.a) || (decide (c.a = x) && W U r k c.b)
def nbr (U : List Cb) (x y : Int) : Prop := ∃ c, c ∈ U ∧ ((c.a = x ∧ c.b = y) ∨ (c.b = x ∧ c.a = y))
theorem nbr_symm {U : List Cb} {x y : Int} (h : nbr U x y) : nbr U y x := by
  obtain ⟨c, hc, ⟨h1, h2⟩ | ⟨h1, h2⟩⟩ := h
  · exact ⟨c, hc, .inr ⟨h2, h1⟩⟩
  · exact ⟨c, hc, .inl ⟨h2, h1⟩⟩
theorem W_succ {U : List Cb} {r : Int} {k : Nat} {x : Int} : W U r (k + 1) x = true ↔ W U r k x = true ∨ ∃ z, nbr U z x ∧ W U r k z = true := by
  simp only [W, Bool.or_eq_true, List.any_eq_true, Bool.and_eq_true, decide_eq_true_eq, nbr]
  constructor
  · rintro (h | ⟨c, hc, ⟨h1, h2⟩ | ⟨h1, h2⟩⟩)
    · exact .inl h
    · exact .inr ⟨c.a, ⟨c, hc, .inl ⟨rfl, h1⟩⟩, h2⟩
    · exact .inr ⟨c.b, ⟨c, hc, .inr ⟨rfl, h1⟩⟩, h2⟩
  · rintro (h | ⟨z, ⟨c, hc, ⟨h1, h2⟩ | ⟨h1, h2⟩⟩, h3⟩)
    · exact .inl h
    · exact .inr ⟨c, hc, .inl ⟨h2, by rw [h1]; exact h3⟩⟩
    · exact .inr ⟨c, hc, .inr ⟨h2, by rw [h1]; exact h3⟩⟩
theorem W_mono {U : List Cb} {r : Int} {x : Int} {j k : Nat} (h : j ≤ k) (hw : W U r j x = true) : W U r k x = true := by
  induction k with
  | zero => have : j = 0 := by omega
            subst this; exact hw
  | succ k ih =>
    by_cases e : j = k + 1
    · subst e; exact hw
    · exact W_succ.2 (.inl (ih (by omega)))
/-- The cables' ends are nodes. -/
def inN (n : Nat) (x : Int) : Prop := 0 ≤ x ∧ x < n
def CabN (n : Nat) (U : List Cb) : Prop := ∀ c, c ∈ U → inN n c.a ∧ inN n c.b
theorem nbr_in {n : Nat} {U : List Cb} (hU : CabN n U) {x y : Int} (h : nbr U x y) : inN n x ∧ inN n y := by
  obtain ⟨c, hc, ⟨h1, h2⟩ | ⟨h1, h2⟩⟩ := h <;> subst h1 h2
  · exact hU c hc
  · exact ⟨(hU c hc).2, (hU c hc).1⟩

theorem inj_le : ∀ (n : Nat) (m : Nat) (f : Nat → Nat), (∀ i, i < m → f i < n) → (∀ i j, i < m → j < m → f i = f j → i = j) → m ≤ n := by
  intro n
  induction n with
  | zero =>
    intro m f h1 _
    cases m with
    | zero => exact Nat.le_refl _
    | succ m => exact absurd (h1 0 (by omega)) (by omega)
  | succ n ih =>
    intro m f h1 h2
    cases m with
    | zero => omega
    | succ m =>
      have := ih m (fun i => if f i = n then f m else f i) (fun i hi => by
        by_cases e : f i = n
        · simp only [e, if_true]
          have g1 := h1 m (by omega)
          by_cases e2 : f m = n
          · have := h2 i m (by omega) (by omega) (by omega); omega
          · omega
        · simp only [e, if_false]
          have := h1 i (by omega); omega) (fun i j hi hj he => by
        by_cases e1 : f i = n <;> by_cases e2 : f j = n
        · exact h2 i j (by omega) (by omega) (by omega)
        · simp only [e1, e2, if_true, if_false] at he
          have := h2 m j (by omega) (by omega) he; omega
        · simp only [e1, e2, if_true, if_false] at he
          have := h2 i m (by omega) (by omega) he; omega
        · simp only [e1, e2, if_false] at he
          exact h2 i j (by omega) (by omega) he)
      omega
/-- The least number of steps is less than the number of nodes. -/
theorem W_least {n : Nat} {U : List Cb} {r : Int} (hU : CabN n U) (hr : inN n r) {k : Nat} {x : Int} (hw : W U r k x = true) (hm : ∀ j, j < k → W U r j x = false) : k < n := by
  have step : ∀ k x, inN n x → W U r k x = true → (∀ j, j < k → W U r j x = false) → ∃ f : Nat → Int, ∀ i, i ≤ k → inN n (f i) ∧ W U r i (f i) = true ∧ ∀ j, j < i → W U r j (f i) = false := by
    intro k
    induction k with
    | zero => intro x hx hw _; exact ⟨fun _ => x, fun i hi => by have : i = 0 := by omega
                                                                 subst this; exact ⟨hx, hw, fun j hj => by omega⟩⟩
    | succ k ih =>
      intro x hx hw hm
      rcases W_succ.1 hw with h | ⟨z, hz, hwz⟩
      · rw [hm k (by omega)] at h; exact absurd h (by simp)
      · have hmz : ∀ j, j < k → W U r j z = false := fun j hj => by
          cases hq : W U r j z with
          | false => rfl
          | true =>
            have : W U r (j + 1) x = true := W_succ.2 (.inr ⟨z, hz, hq⟩)
            rw [hm (j + 1) (by omega)] at this; exact absurd this (by simp)
        obtain ⟨f, hf⟩ := ih z (nbr_in hU hz).1 hwz hmz
        refine ⟨fun i => if i = k + 1 then x else f i, fun i hi => ?_⟩
        by_cases e : i = k + 1
        · subst e; simp only [if_true]; exact ⟨hx, hw, hm⟩
        · simp only [e, if_false]; exact hf i (by omega)
  have hx : inN n x := by
    cases k with
    | zero => simp [W] at hw; subst hw; exact hr
    | succ k =>
      rcases W_succ.1 hw with h | ⟨z, hz, _⟩
      · rw [hm k (by omega)] at h; exact absurd h (by simp)
      · exact (nbr_in hU hz).2
  obtain ⟨f, hf⟩ := step k x hx hw hm
  have := inj_le n (k + 1) (fun i => (f i).toNat) (fun i hi => by have := (hf i (by omega)).1; unfold inN at this; show (f i).toNat < n; omega) (fun i j hi hj he => by
    obtain ⟨a1, a2, a3⟩ := hf i (by omega)
    obtain ⟨b1, b2, b3⟩ := hf j (by omega)
    have he : f i = f j := by
      have he' : (f i).toNat = (f j).toNat := he
      unfold inN at a1 b1; omega
    rw [he] at a2 a3
    by_cases h1 : i < j
    · rw [b3 i h1] at a2; exact absurd a2 (by simp)
    · by_cases h2 : j < i
      · rw [a3 j h2] at b2; exact absurd b2 (by simp)
      · omega)
  omega

/-- The distance of a node from a root, or -1. -/
def distX (n : Nat) (U : List Cb) (r : Int) (x : Int) : Int :=
  match (List.range n).find? fun k => W U r k x with
  | some k => k
  | none => -1
def distL (n : Nat) (U : List Cb) (r : Int) : List Int := (List.range n).map fun (x : Nat) => distX n U r (x : Int)

theorem distX_of {n : Nat} {U : List Cb} {r : Int} (hU : CabN n U) (hr : inN n r) {k : Nat} {x : Int} (hw : W U r k x = true) (hm : ∀ j, j < k → W U r j x = false) : distX n U r x = k := by
  have hk := W_least hU hr hw hm
  unfold distX
  have : (List.range n).find? (fun k => W U r k x) = some k := by
    rw [List.find?_range_eq_some]
    refine ⟨hw, List.mem_range.2 hk, fun j hj => ?_⟩
    simp [hm j hj]
  rw [this]
theorem distX_none {n : Nat} {U : List Cb} {r x : Int} (h : ∀ k, W U r k x = false) : distX n U r x = -1 := by
  unfold distX
  have : (List.range n).find? (fun k => W U r k x) = none := by
    rw [List.find?_eq_none]; intro k _; simp [h k]
  rw [this]
theorem distX_cases {n : Nat} {U : List Cb} {r : Int} (hU : CabN n U) (hr : inN n r) (x : Int) : (distX n U r x = -1 ∧ ∀ k, W U r k x = false) ∨ ∃ k : Nat, distX n U r x = k ∧ k < n ∧ W U r k x = true ∧ ∀ j, j < k → W U r j x = false := by
  by_cases h : ∃ k, W U r k x = true
  · obtain ⟨k, hk⟩ := h
    have : ∃ k, W U r k x = true ∧ ∀ j, j < k → W U r j x = false := by
      induction k using Nat.strongRecOn with
      | _ k ih =>
        by_cases h : ∃ j, j < k ∧ W U r j x = true
        · obtain ⟨j, h1, h2⟩ := h; exact ih j h1 h2
        · refine ⟨k, hk, fun j hj => ?_⟩
          cases hq : W U r j x with
          | false => rfl
          | true => exact absurd ⟨j, hj, hq⟩ h
    obtain ⟨k, h1, h2⟩ := this
    exact .inr ⟨k, distX_of hU hr h1 h2, W_least hU hr h1 h2, h1, h2⟩
  · have : ∀ k, W U r k x = false := fun k => by
      cases hq : W U r k x with
      | false => rfl
      | true => exact absurd ⟨k, hq⟩ h
    exact .inl ⟨distX_none this, this⟩
end Go.Proofs.Ytggaonafmiklaaa
