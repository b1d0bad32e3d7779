/- For every list of numbers: the law's function answers true, and its argument reads as it did. Conditions: none. -/
import Derived.Test.YtfhifkcbdpgomaaRQ
namespace Go.Proofs.Ytfhifkcbdpgomaa
set_option linter.unusedSimpArgs false
set_option linter.unusedVariables false
open Go.ChangeShapes Go.WideShapes Go.ChangeAt Go.RowKit

theorem law_rationalSums (lvs : List LV) (h : fitAll Try.prog Try.f6.params.toList lvs) : Ev Try.prog 6 lvs (.sc (.bool true)) := by
  rw [Try.params6] at h
  obtain ⟨a0, l0, rfl, g0, h⟩ := all1 h
  obtain rfl := all0 h
  obtain ⟨l, il, hl, nl⟩ := arg_rats g0
  exact ev_im (bs := [ratsV l]) ⟨il, trivial⟩ (ev_lawSums l hl)
set_option maxRecDepth 100000 in
theorem lifted_rationalSums (os : Os) (started : os.Started) (H : Type) (enc : TypeId × Value → H) :
    ReturnsInHanded {} Try.checked os 6 .any (Rows.rationalSumsSpec.pre6 enc Try.prog Try.f6 Rows.rationalSumsRow.domain false) (Rows.rationalSumsSpec.post enc Try.prog Try.f6 false true false false) := by
  refine law_lifted (C := Try.checked) (tb := 4) Try.own' started Try.laidOut' (by kernel_rfl) Try.func6
    (ChangeSpec.witness6 (enc := enc) (C := Try.checked) false ⟨#[], #[.slice none 0 0], []⟩ 8 (by kernel_rfl) (by kernel_rfl) (by kernel_rfl) (by kernel_rfl))
    (by kernel_rfl) Try.underlying4 rfl (fun ds hd => ?_) (by kernel_rfl) law_rationalSums
  have hd : ds.length = 1 := hd
  match ds, hd with
  | [d1], _ => exact ⟨rfl, rfl, rfl⟩
theorem rationalSums_holds : Rows.RationalSumsSaid :=
  OpenClaim.holds_of_wide 6 Try.f6 rfl rfl rfl rfl rfl rfl rfl ⟨rfl, rfl, rfl, rfl, rfl⟩ rfl rfl rfl rfl rfl (by kernel_rfl) Try.func6 (by kernel_rfl)
    (of_decide_eq_true (by kernel_rfl)) (by unfold Func.isWrapper; first | (rw [if_pos (by decide +kernel)]; kernel_rfl) | (rw [if_neg (by decide +kernel)]; exact ⟨rfl, rfl⟩))
    (fun os started H enc _ => lifted_rationalSums os started H enc)
end Go.Proofs.Ytfhifkcbdpgomaa
