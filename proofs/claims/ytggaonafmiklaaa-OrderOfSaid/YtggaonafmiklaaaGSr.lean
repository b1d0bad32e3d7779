/- For every plan, every list of cables that are up, and every root: the law's function answers true, and its arguments read as they did. Conditions: none. -/
import Derived.Test.YtggaonafmiklaaaGS
namespace Go.Proofs.Ytggaonafmiklaaa
set_option linter.unusedSimpArgs false
set_option linter.unusedVariables false
open Go.ChangeShapes Go.WideShapes Go.ChangeAt Go.RowKit

theorem law_of (lvs : List LV) (h : fitAll Try.prog Try.f3.params.toList lvs) : Ev Try.prog 3 lvs (.sc (.bool true)) := by
  rw [Try.params3] at h
  obtain ⟨a, l, rfl, h1, h⟩ := all1 h
  obtain ⟨b, l, rfl, h2, h⟩ := all1 h
  obtain ⟨c, l, rfl, h3, h⟩ := all1 h
  obtain rfl := all0 h
  obtain ⟨p, i1, hp⟩ := arg_plan h1
  obtain ⟨up, i2, _⟩ := arg_bools h2
  obtain ⟨r, rfl, hr⟩ := arg_int h3
  exact ev_im (bs := [plV p, boolsV up, .sc (.int .i64 r)]) ⟨i1, i2, Im.refl _, trivial⟩ (ev_lawOf p hp up r hr)
set_option maxRecDepth 100000 in
theorem lifted_of (os : Os) (started : os.Started) (H : Type) (enc : TypeId × Value → H) :
    ReturnsInHanded {} Try.checked os 3 .any (Rows.orderOfSpec.pre6 enc Try.prog Try.f3 Rows.orderOfRow.domain false) (Rows.orderOfSpec.post enc Try.prog Try.f3 false true false false) := by
  refine law_lifted (C := Try.checked) (tb := 4) Try.own' started Try.laidOut' (by kernel_rfl) Try.func3
    (ChangeSpec.witness6 (enc := enc) (C := Try.checked) false ⟨#[], #[.agg #[.slice none 0 0, .slice none 0 0], .slice none 0 0, .int .i64 0], []⟩ 8 (by kernel_rfl) (by kernel_rfl) (by kernel_rfl) (by kernel_rfl))
    (by kernel_rfl) Try.underlying4 rfl (fun ds hd => ?_) (by kernel_rfl) law_of
  have hd : ds.length = 3 := hd
  match ds, hd with
  | [d1, d2, d3], _ => exact ⟨rfl, rfl, rfl⟩
theorem orderOf_holds : Rows.OrderOfSaid :=
  OpenClaim.holds_of_wide 3 Try.f3 rfl rfl rfl rfl rfl rfl rfl ⟨rfl, rfl, rfl, rfl, rfl⟩ rfl rfl rfl rfl rfl (by kernel_rfl) Try.func3 (by kernel_rfl)
    (of_decide_eq_true (by kernel_rfl)) (by unfold Func.isWrapper; first | (rw [if_pos (by decide +kernel)]; kernel_rfl) | (rw [if_neg (by decide +kernel)]; exact ⟨rfl, rfl⟩))
    (fun os started H enc _ => lifted_of os started H enc)
end Go.Proofs.Ytggaonafmiklaaa
