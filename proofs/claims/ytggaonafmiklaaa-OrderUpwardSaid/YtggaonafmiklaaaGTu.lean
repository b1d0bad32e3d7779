/- For every plan, every list of levels, every cable and node: the law's function answers true, and its arguments read as they did. Conditions: none. -/
import Derived.Test.YtggaonafmiklaaaGT
namespace Go.Proofs.Ytggaonafmiklaaa
set_option linter.unusedSimpArgs false
set_option linter.unusedVariables false
open Go.ChangeShapes Go.WideShapes Go.ChangeAt Go.RowKit

theorem law_orderUpward (lvs : List LV) (h : fitAll Try.prog Try.f4.params.toList lvs) : Ev Try.prog 4 lvs (.sc (.bool true)) := by
  rw [Try.params4] at h
  obtain ⟨a0, l0, rfl, g0, h⟩ := all1 h
  obtain ⟨a1, l1, rfl, g1, h⟩ := all1 h
  obtain ⟨a2, l2, rfl, g2, h⟩ := all1 h
  obtain ⟨a3, l3, rfl, g3, h⟩ := all1 h
  obtain rfl := all0 h
  obtain ⟨p, ip, hp⟩ := arg_plan g0
  obtain ⟨l, il, hl, nl⟩ := arg_ints g1
  obtain ⟨i, rfl, hi⟩ := arg_int g2
  obtain ⟨x, rfl, hx⟩ := arg_int g3
  exact ev_im (bs := [plV p, intsV l, .sc (.int .i64 i), .sc (.int .i64 x)]) ⟨ip, il, Im.refl _, Im.refl _, trivial⟩ (ev_lawUp p hp l i x)
set_option maxRecDepth 100000 in
theorem lifted_orderUpward (os : Os) (started : os.Started) (H : Type) (enc : TypeId × Value → H) :
    ReturnsInHanded {} Try.checked os 4 .any (Rows.orderUpwardSpec.pre6 enc Try.prog Try.f4 Rows.orderUpwardRow.domain false) (Rows.orderUpwardSpec.post enc Try.prog Try.f4 false true false false) := by
  refine law_lifted (C := Try.checked) (tb := 4) Try.own' started Try.laidOut' (by kernel_rfl) Try.func4
    (ChangeSpec.witness6 (enc := enc) (C := Try.checked) false ⟨#[], #[.agg #[.slice none 0 0, .slice none 0 0], .slice none 0 0, .int .i64 0, .int .i64 0], []⟩ 8 (by kernel_rfl) (by kernel_rfl) (by kernel_rfl) (by kernel_rfl))
    (by kernel_rfl) Try.underlying4 rfl (fun ds hd => ?_) (by kernel_rfl) law_orderUpward
  have hd : ds.length = 4 := hd
  match ds, hd with
  | [d1, d2, d3, d4], _ => exact ⟨rfl, rfl, rfl⟩
theorem orderUpward_holds : Rows.OrderUpwardSaid :=
  OpenClaim.holds_of_wide 4 Try.f4 rfl rfl rfl rfl rfl rfl rfl ⟨rfl, rfl, rfl, rfl, rfl⟩ rfl rfl rfl rfl rfl (by kernel_rfl) Try.func4 (by kernel_rfl)
    (of_decide_eq_true (by kernel_rfl)) (by unfold Func.isWrapper; first | (rw [if_pos (by decide +kernel)]; kernel_rfl) | (rw [if_neg (by decide +kernel)]; exact ⟨rfl, rfl⟩))
    (fun os started H enc _ => lifted_orderUpward os started H enc)
end Go.Proofs.Ytggaonafmiklaaa
