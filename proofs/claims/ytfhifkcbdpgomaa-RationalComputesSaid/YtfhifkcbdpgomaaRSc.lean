/- For every two numbers: the law's function answers true, and its arguments read as they did. Conditions: none. -/
import Derived.Test.YtfhifkcbdpgomaaRS
namespace Go.Proofs.Ytfhifkcbdpgomaa
set_option linter.unusedSimpArgs false
set_option linter.unusedVariables false
open Go.ChangeShapes Go.WideShapes Go.ChangeAt Go.RowKit

theorem law_rationalComputes (lvs : List LV) (h : fitAll Try.prog Try.f4.params.toList lvs) : Ev Try.prog 4 lvs (.sc (.bool true)) := by
  rw [Try.params4] at h
  obtain ⟨a0, l0, rfl, g0, h⟩ := all1 h
  obtain ⟨a1, l1, rfl, g1, h⟩ := all1 h
  obtain rfl := all0 h
  obtain ⟨a, rfl, ha⟩ := arg_rat g0
  obtain ⟨b, rfl, hb⟩ := arg_rat g1
  exact ev_im (bs := [ratV a, ratV b]) ⟨Im.refl _, Im.refl _, trivial⟩ (ev_lawComputes a b ha hb)
set_option maxRecDepth 100000 in
theorem lifted_rationalComputes (os : Os) (started : os.Started) (H : Type) (enc : TypeId × Value → H) :
    ReturnsInHanded {} Try.checked os 4 .any (Rows.rationalComputesSpec.pre6 enc Try.prog Try.f4 Rows.rationalComputesRow.domain false) (Rows.rationalComputesSpec.post enc Try.prog Try.f4 false true false false) := by
  refine law_lifted (C := Try.checked) (tb := 4) Try.own' started Try.laidOut' (by kernel_rfl) Try.func4
    (ChangeSpec.witness6 (enc := enc) (C := Try.checked) false ⟨#[], #[.agg #[.int .i64 0, .int .i64 0], .agg #[.int .i64 0, .int .i64 0]], []⟩ 8 (by kernel_rfl) (by kernel_rfl) (by kernel_rfl) (by kernel_rfl))
    (by kernel_rfl) Try.underlying4 rfl (fun ds hd => ?_) (by kernel_rfl) law_rationalComputes
  have hd : ds.length = 2 := hd
  match ds, hd with
  | [d1, d2], _ => exact ⟨rfl, rfl, rfl⟩
theorem rationalComputes_holds : Rows.RationalComputesSaid :=
  OpenClaim.holds_of_wide 4 Try.f4 rfl rfl rfl rfl rfl rfl rfl ⟨rfl, rfl, rfl, rfl, rfl⟩ rfl rfl rfl rfl rfl (by kernel_rfl) Try.func4 (by kernel_rfl)
    (of_decide_eq_true (by kernel_rfl)) (by unfold Func.isWrapper; first | (rw [if_pos (by decide +kernel)]; kernel_rfl) | (rw [if_neg (by decide +kernel)]; exact ⟨rfl, rfl⟩))
    (fun os started H enc _ => lifted_rationalComputes os started H enc)
end Go.Proofs.Ytfhifkcbdpgomaa
