/- A valid order by the program and by the reference; the example of the chapter. Conditions: none. -/
import Derived.Test.YtggaonafmiklaaaGO
namespace Go.Proofs.Ytggaonafmiklaaa
set_option linter.unusedSimpArgs false
set_option linter.unusedVariables false
open Go.RowKit
set_option maxRecDepth 20000

theorem fndF_iff (p : Pl) (l : List Int) (i k : Nat) : fndF p l i k = true ↔ l.getD i 0 < 1 ∨ ∃ j, j < k ∧ hitF l i (p.cs.getD j default) = true := by
  induction k with
  | zero => simp [fndF]
  | succ k ih =>
    simp only [fndF, condT, Bool.or_eq_true, ih]
    constructor
    · rintro (h | h | ⟨j, hj, h⟩)
      · exact .inr ⟨k, by omega, h⟩
      · exact .inl h
      · exact .inr ⟨j, by omega, h⟩
    · rintro (h | ⟨j, hj, h⟩)
      · exact .inr (.inl h)
      · by_cases e : j = k
        · subst e; exact .inl h
        · exact .inr (.inr ⟨j, by omega, h⟩)
theorem getD_setT {m : List Bool} {x i : Nat} (hx : x < m.length) : (m.set x true).getD i false = true ↔ i = x ∨ m.getD i false = true := by
  by_cases e : i = x
  · subst e
    rw [List.getD_eq_getElem?_getD, List.getElem?_set_self hx]; simp
  · rw [List.getD_eq_getElem?_getD, List.getElem?_set_ne (fun h => e h.symm), ← List.getD_eq_getElem?_getD]
    simp [e]
theorem ledF_iff {p : Pl} {l : List Int} (hC : ∀ c, c ∈ p.cs → inN p.ns.length c.a ∧ inN p.ns.length c.b) (i k : Nat) (hk : k ≤ p.cs.length) :
    (ledF p l k).getD i false = true ↔ ∃ j, j < k ∧ ((lvl l (p.cs.getD j default).a = lvl l (p.cs.getD j default).b - 1 ∧ (p.cs.getD j default).b = i) ∨ (lvl l (p.cs.getD j default).b = lvl l (p.cs.getD j default).a - 1 ∧ (p.cs.getD j default).a = i)) := by
  induction k with
  | zero =>
    simp only [ledF, List.getD_eq_getElem?_getD, List.getElem?_replicate]
    constructor
    · intro h; split at h <;> simp at h
    · rintro ⟨j, hj, _⟩; omega
  | succ k ih =>
    have ih := ih (by omega)
    have hm := ledF_len p l k
    have hcm : (p.cs.getD k default) ∈ p.cs := by rw [List.getD_eq_getElem?_getD, List.getElem?_eq_getElem (by omega)]; exact List.getElem_mem _
    obtain ⟨ha, hb⟩ := hC _ hcm
    unfold inN at ha hb
    have key : (ledF p l (k + 1)).getD i false = true ↔ ((lvl l (p.cs.getD k default).a = lvl l (p.cs.getD k default).b - 1 ∧ (p.cs.getD k default).b = i) ∨ (lvl l (p.cs.getD k default).b = lvl l (p.cs.getD k default).a - 1 ∧ (p.cs.getD k default).a = i)) ∨ (ledF p l k).getD i false = true := by
      simp only [ledF, ledS]
      by_cases h1 : lvl l (p.cs.getD k default).a = lvl l (p.cs.getD k default).b - 1
      · rw [decide_eq_true h1, cond_true, getD_setT (by omega)]
        constructor
        · rintro (h | h)
          · exact .inl (.inl ⟨h1, by omega⟩)
          · exact .inr h
        · rintro ((⟨_, h⟩ | ⟨h2, _⟩) | h)
          · exact .inl (by omega)
          · omega
          · exact .inr h
      · rw [decide_eq_false h1, cond_false]
        by_cases h2 : lvl l (p.cs.getD k default).b = lvl l (p.cs.getD k default).a - 1
        · rw [decide_eq_true h2, cond_true, getD_setT (by omega)]
          constructor
          · rintro (h | h)
            · exact .inl (.inr ⟨h2, by omega⟩)
            · exact .inr h
          · rintro ((⟨h3, _⟩ | ⟨_, h⟩) | h)
            · exact absurd h3 h1
            · exact .inl (by omega)
            · exact .inr h
        · rw [decide_eq_false h2, cond_false]
          constructor
          · exact .inr
          · rintro ((⟨h3, _⟩ | ⟨h3, _⟩) | h)
            · exact absurd h3 h1
            · exact absurd h3 h2
            · exact h
    rw [key, ih]
    constructor
    · rintro (h | ⟨j, hj, h⟩)
      · exact ⟨k, by omega, h⟩
      · exact ⟨j, by omega, h⟩
    · rintro ⟨j, hj, h⟩
      by_cases e : j = k
      · subst e; exact .inl h
      · exact .inr ⟨j, by omega, h⟩
theorem hitF_iff {n : Nat} {l : List Int} {i : Nat} {c : Cb} (ha : inN n c.a) (hb : inN n c.b) : hitF l i c = true ↔ (lvl l c.a = lvl l c.b - 1 ∧ c.b = i) ∨ (lvl l c.b = lvl l c.a - 1 ∧ c.a = i) := by
  unfold inN at ha hb
  have hl : l.getD i 0 = lvl l (i : Int) := rfl
  unfold hitF otherE
  rw [hl]
  by_cases h1 : c.a = i
  · rw [decide_eq_true h1, cond_true]
    simp only [Bool.and_eq_true, decide_eq_true_eq]
    constructor
    · rintro ⟨_, h⟩; exact .inr ⟨by rw [h1]; exact h, h1⟩
    · rintro (⟨h2, h3⟩ | ⟨h2, _⟩)
      · rw [h1, h3] at h2; omega
      · exact ⟨hb.1, by rw [h1] at h2; exact h2⟩
  · rw [decide_eq_false h1, cond_false]
    by_cases h2 : c.b = i
    · rw [decide_eq_true h2, cond_true]
      simp only [Bool.and_eq_true, decide_eq_true_eq]
      constructor
      · rintro ⟨_, h⟩; exact .inl ⟨by rw [h2]; exact h, h2⟩
      · rintro (⟨h3, _⟩ | ⟨_, h3⟩)
        · exact ⟨ha.1, by rw [h2] at h3; exact h3⟩
        · exact absurd h3 h1
    · rw [decide_eq_false h2, cond_false]
      simp only [Bool.and_eq_true, decide_eq_true_eq]
      constructor
      · rintro ⟨h, _⟩; omega
      · rintro (⟨_, h⟩ | ⟨_, h⟩)
        · exact absurd h h2
        · exact absurd h h1
theorem fits_ord {p : Pl} (hv : validE p = 0) (l : List Int) : fitsB p l = ordB p l := by
  have hV := valid_of hv
  unfold fitsB ordB
  rw [decide_eq_true hv, Bool.true_and]
  by_cases hl : l.length = p.ns.length
  · rw [decide_eq_true hl, Bool.true_and, Bool.true_and]
    have hfo : ∀ i, i < l.length → fndF p l i p.cs.length = ledOk p l i := by
      intro i hi
      rw [Bool.eq_iff_iff, fndF_iff]
      unfold ledOk
      have h2 := ledF_iff (p := p) (l := l) hV.cab i p.cs.length (Nat.le_refl _)
      have h3 : (∃ j, j < p.cs.length ∧ hitF l i (p.cs.getD j default) = true) ↔ (ledF p l p.cs.length).getD i false = true := by
        rw [h2]
        constructor
        · rintro ⟨j, hj, h⟩
          have hcm : (p.cs.getD j default) ∈ p.cs := by rw [List.getD_eq_getElem?_getD, List.getElem?_eq_getElem hj]; exact List.getElem_mem _
          exact ⟨j, hj, (hitF_iff (hV.cab _ hcm).1 (hV.cab _ hcm).2).1 h⟩
        · rintro ⟨j, hj, h⟩
          have hcm : (p.cs.getD j default) ∈ p.cs := by rw [List.getD_eq_getElem?_getD, List.getElem?_eq_getElem hj]; exact List.getElem_mem _
          exact ⟨j, hj, (hitF_iff (hV.cab _ hcm).1 (hV.cab _ hcm).2).2 h⟩
      rw [h3]
      cases (ledF p l p.cs.length).getD i false
      · simp; omega
      · simp
    rw [Bool.eq_iff_iff]
    simp only [Bool.and_eq_true, List.all_eq_true, List.mem_range, decide_eq_true_eq]
    constructor
    · rintro ⟨h1, h2⟩
      refine ⟨fun x hx => ?_, h2, fun i hi => ?_⟩
      · obtain ⟨i, hi, rfl⟩ := List.getElem_of_mem hx
        have := (h1 i hi).1
        rw [List.getD_eq_getElem?_getD, List.getElem?_eq_getElem hi, hl] at this
        exact this
      · rw [← hfo i hi]; exact (h1 i hi).2
    · rintro ⟨h1, h2, h3⟩
      refine ⟨fun i hi => ⟨?_, ?_⟩, h2⟩
      · rw [List.getD_eq_getElem?_getD, List.getElem?_eq_getElem hi, hl]
        exact h1 _ (List.getElem_mem hi)
      · rw [hfo i hi]; exact h3 i hi
  · rw [decide_eq_false hl]; rfl
end Go.Proofs.Ytggaonafmiklaaa
