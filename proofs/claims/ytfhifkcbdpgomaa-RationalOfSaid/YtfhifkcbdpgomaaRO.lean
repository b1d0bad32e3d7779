/- The arguments of chapter 1's statements, opened. Conditions: none. -/
import Derived.Test.YtfhifkcbdpgomaaRN
import Derived.Test.YtfhifkcbdpgomaaAO
namespace Go.Proofs.Ytfhifkcbdpgomaa
set_option linter.unusedSimpArgs false
set_option linter.unusedVariables false
open Go.RowKit

theorem el_rat {d : Nat} {ls : List LV} (h : fitT Try.prog d 23 ls) : ∃ r : Rt, ls = rtL r ∧ RtOk r := by
  obtain ⟨h1, d', h2⟩ := fit_flat Try.underlying23 (n := 2) (by kernel_rfl) (by kernel_rfl) h
  obtain ⟨a, b, rfl⟩ : ∃ a b, ls = [a, b] := by
    match ls, h1 with
    | [a, b], _ => exact ⟨a, b, rfl⟩
  obtain ⟨x, hx, h3⟩ := h2 0 _ rfl
  obtain ⟨y, hy, h4⟩ := h2 1 _ rfl
  simp at hx hy
  subst hx; subst hy
  obtain ⟨i1, k1, j1⟩ := fit_i64 Try.underlying3 h3
  obtain ⟨i2, k2, j2⟩ := fit_i64 Try.underlying3 h4
  simp only [List.cons.injEq, and_true] at k1 k2
  subst k1; subst k2
  exact ⟨⟨i1, i2⟩, rfl, j1, j2⟩
theorem arg_rat {lv : LV} (h : fitA Try.prog 23 lv) : ∃ r : Rt, lv = ratV r ∧ RtOk r := by
  obtain ⟨ls, rfl, h1⟩ := arg_agg (by kernel_rfl) h
  obtain ⟨r, rfl, h2⟩ := el_rat h1
  exact ⟨r, rfl, h2⟩
theorem arg_rats {lv : LV} (h : fitA Try.prog 42 lv) : ∃ l : List Rt, Im lv (ratsV l) ∧ (∀ r, r ∈ l → RtOk r) ∧ l.length ≤ maxLen := by
  obtain ⟨d', n, f, h1, h2, h3⟩ := fit_sl Try.underlying42 (arg_cell (by kernel_rfl) h)
  have hall : ∀ i, ∃ x : Rt, i < n → f i = rtL x ∧ RtOk x := by
    intro i
    by_cases hi : i < n
    · obtain ⟨x, h4⟩ := el_rat (h3 i hi)
      exact ⟨x, fun _ => h4⟩
    · exact ⟨default, fun h => absurd h hi⟩
  obtain ⟨g, hg⟩ := Classical.axiomOfChoice hall
  simp only [List.cons.injEq, and_true] at h1
  subst h1
  refine ⟨listOf n g, ?_, fun x hx => ?_, by rw [listOf_len]; exact h2⟩
  · unfold ratsV
    rw [listOf_len]
    refine Im.rsl fun i hi => ?_
    rw [(hg i hi).1]
    show rtL (g i) = rtL ((listOf n g).getD i default)
    rw [listOf_get n g default hi]
  · obtain ⟨i, hi, rfl⟩ := listOf_mem hx
    exact (hg i hi).2
end Go.Proofs.Ytfhifkcbdpgomaa
