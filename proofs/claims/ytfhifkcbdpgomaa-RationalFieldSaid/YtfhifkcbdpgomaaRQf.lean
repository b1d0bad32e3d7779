/- For every three numbers: the law's function answers true, and its arguments read as they did. Conditions: none. -/
import Derived.Test.YtfhifkcbdpgomaaRQ
namespace Go.Proofs.Ytfhifkcbdpgomaa
set_option linter.unusedSimpArgs false
set_option linter.unusedVariables false
open Go.ChangeShapes Go.WideShapes Go.ChangeAt Go.RowKit

theorem law_rationalField (lvs : List LV) (h : fitAll Try.prog Try.f3.params.toList lvs) : Ev Try.prog 3 lvs (.sc (.bool true)) := by
  rw [Try.params3] at h
  obtain ⟨a0, l0, rfl, g0, h⟩ := all1 h
  obtain ⟨a1, l1, rfl, g1, h⟩ := all1 h
  obtain ⟨a2, l2, rfl, g2, h⟩ := all1 h
  obtain rfl := all0 h
  obtain ⟨a, rfl, ha⟩ := arg_rat g0
  obtain ⟨b, rfl, hb⟩ := arg_rat g1
  obtain ⟨c, rfl, hc⟩ := arg_rat g2
  exact ev_im (bs := [ratV a, ratV b, ratV c]) ⟨Im.refl _, Im.refl _, Im.refl _, trivial⟩ (ev_lawField a b c ha hb hc)
set_option maxRecDepth 100000 in
theorem lifted_rationalField (os : Os) (started : os.Started) (H : Type) (enc : TypeId × Value → H) :
    ReturnsInHanded {} Try.checked os 3 .any (Rows.rationalFieldSpec.pre6 enc Try.prog Try.f3 Rows.rationalFieldRow.domain false) (Rows.rationalFieldSpec.post enc Try.prog Try.f3 false true false false) := by
  refine law_lifted (C := Try.checked) (tb := 4) Try.own' started Try.laidOut' (by kernel_rfl) Try.func3
    (ChangeSpec.witness6 (enc := enc) (C := Try.checked) false ⟨#[], #[.agg #[.int .i64 0, .int .i64 0], .agg #[.int .i64 0, .int .i64 0], .agg #[.int .i64 0, .int .i64 0]], []⟩ 8 (by kernel_rfl) (by kernel_rfl) (by kernel_rfl) (by kernel_rfl))
    (by kernel_rfl) Try.underlying4 rfl (fun ds hd => ?_) (by kernel_rfl) law_rationalField
  have hd : ds.length = 3 := hd
  match ds, hd with
  | [d1, d2, d3], _ => exact ⟨rfl, rfl, rfl⟩
theorem rationalField_holds : Rows.RationalFieldSaid :=
  OpenClaim.holds_of_wide 3 Try.f3 rfl rfl rfl rfl rfl rfl rfl ⟨rfl, rfl, rfl, rfl, rfl⟩ rfl rfl rfl rfl rfl (by kernel_rfl) Try.func3 (by kernel_rfl)
    (of_decide_eq_true (by kernel_rfl)) (by unfold Func.isWrapper; first | (rw [if_pos (by decide +kernel)]; kernel_rfl) | (rw [if_neg (by decide +kernel)]; exact ⟨rfl, rfl⟩))
    (fun os started H enc _ => lifted_rationalField os started H enc)
end Go.Proofs.Ytfhifkcbdpgomaa
