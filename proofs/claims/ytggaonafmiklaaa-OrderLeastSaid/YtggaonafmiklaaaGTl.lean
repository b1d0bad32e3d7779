/- For every plan and every list of cables that are up: the law's function answers true, and its arguments read as they did. Conditions: none. -/
import Derived.Test.YtggaonafmiklaaaGT
namespace Go.Proofs.Ytggaonafmiklaaa
set_option linter.unusedSimpArgs false
set_option linter.unusedVariables false
open Go.ChangeShapes Go.WideShapes Go.ChangeAt Go.RowKit

theorem law_orderLeast (lvs : List LV) (h : fitAll Try.prog Try.f7.params.toList lvs) : Ev Try.prog 7 lvs (.sc (.bool true)) := by
  rw [Try.params7] at h
  obtain ⟨a0, l0, rfl, g0, h⟩ := all1 h
  obtain ⟨a1, l1, rfl, g1, h⟩ := all1 h
  obtain rfl := all0 h
  obtain ⟨p, ip, hp⟩ := arg_plan g0
  obtain ⟨up, iup, nup⟩ := arg_bools g1
  exact ev_im (bs := [plV p, boolsV up]) ⟨ip, iup, trivial⟩ (ev_lawLeast p hp up)
set_option maxRecDepth 100000 in
theorem lifted_orderLeast (os : Os) (started : os.Started) (H : Type) (enc : TypeId × Value → H) :
    ReturnsInHanded {} Try.checked os 7 .any (Rows.orderLeastSpec.pre6 enc Try.prog Try.f7 Rows.orderLeastRow.domain false) (Rows.orderLeastSpec.post enc Try.prog Try.f7 false true false false) := by
  refine law_lifted (C := Try.checked) (tb := 4) Try.own' started Try.laidOut' (by kernel_rfl) Try.func7
    (ChangeSpec.witness6 (enc := enc) (C := Try.checked) false ⟨#[], #[.agg #[.slice none 0 0, .slice none 0 0], .slice none 0 0], []⟩ 8 (by kernel_rfl) (by kernel_rfl) (by kernel_rfl) (by kernel_rfl))
    (by kernel_rfl) Try.underlying4 rfl (fun ds hd => ?_) (by kernel_rfl) law_orderLeast
  have hd : ds.length = 2 := hd
  match ds, hd with
  | [d1, d2], _ => exact ⟨rfl, rfl, rfl⟩
theorem orderLeast_holds : Rows.OrderLeastSaid :=
  OpenClaim.holds_of_wide 7 Try.f7 rfl rfl rfl rfl rfl rfl rfl ⟨rfl, rfl, rfl, rfl, rfl⟩ rfl rfl rfl rfl rfl (by kernel_rfl) Try.func7 (by kernel_rfl)
    (of_decide_eq_true (by kernel_rfl)) (by unfold Func.isWrapper; first | (rw [if_pos (by decide +kernel)]; kernel_rfl) | (rw [if_neg (by decide +kernel)]; exact ⟨rfl, rfl⟩))
    (fun os started H enc _ => lifted_orderLeast os started H enc)
end Go.Proofs.Ytggaonafmiklaaa
