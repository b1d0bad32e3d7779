/- For every number: the law's function answers true, and its argument reads as it did. Conditions: none. -/
import Derived.Test.YtfhifkcbdpgomaaRS
namespace Go.Proofs.Ytfhifkcbdpgomaa
set_option linter.unusedSimpArgs false
set_option linter.unusedVariables false
open Go.ChangeShapes Go.WideShapes Go.ChangeAt Go.RowKit

theorem law_rationalFloors (lvs : List LV) (h : fitAll Try.prog Try.f8.params.toList lvs) : Ev Try.prog 8 lvs (.sc (.bool true)) := by
  rw [Try.params8] at h
  obtain ⟨a0, l0, rfl, g0, h⟩ := all1 h
  obtain rfl := all0 h
  obtain ⟨r, rfl, hr⟩ := arg_rat g0
  exact ev_im (bs := [ratV r]) ⟨Im.refl _, trivial⟩ (ev_lawFloors r hr)
set_option maxRecDepth 100000 in
theorem lifted_rationalFloors (os : Os) (started : os.Started) (H : Type) (enc : TypeId × Value → H) :
    ReturnsInHanded {} Try.checked os 8 .any (Rows.rationalFloorsSpec.pre6 enc Try.prog Try.f8 Rows.rationalFloorsRow.domain false) (Rows.rationalFloorsSpec.post enc Try.prog Try.f8 false true false false) := by
  refine law_lifted (C := Try.checked) (tb := 4) Try.own' started Try.laidOut' (by kernel_rfl) Try.func8
    (ChangeSpec.witness6 (enc := enc) (C := Try.checked) false ⟨#[], #[.agg #[.int .i64 0, .int .i64 0]], []⟩ 8 (by kernel_rfl) (by kernel_rfl) (by kernel_rfl) (by kernel_rfl))
    (by kernel_rfl) Try.underlying4 rfl (fun ds hd => ?_) (by kernel_rfl) law_rationalFloors
  have hd : ds.length = 1 := hd
  match ds, hd with
  | [d1], _ => exact ⟨rfl, rfl, rfl⟩
theorem rationalFloors_holds : Rows.RationalFloorsSaid :=
  OpenClaim.holds_of_wide 8 Try.f8 rfl rfl rfl rfl rfl rfl rfl ⟨rfl, rfl, rfl, rfl, rfl⟩ rfl rfl rfl rfl rfl (by kernel_rfl) Try.func8 (by kernel_rfl)
    (of_decide_eq_true (by kernel_rfl)) (by unfold Func.isWrapper; first | (rw [if_pos (by decide +kernel)]; kernel_rfl) | (rw [if_neg (by decide +kernel)]; exact ⟨rfl, rfl⟩))
    (fun os started H enc _ => lifted_rationalFloors os started H enc)
end Go.Proofs.Ytfhifkcbdpgomaa
