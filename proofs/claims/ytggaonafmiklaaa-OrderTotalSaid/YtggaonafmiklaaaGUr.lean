/- For every plan, every list of cables that are up, every root and three nodes: the law's function answers true, and its arguments read as they did. Conditions: none. -/
import Derived.Test.YtggaonafmiklaaaGU
namespace Go.Proofs.Ytggaonafmiklaaa
set_option linter.unusedSimpArgs false
set_option linter.unusedVariables false
open Go.ChangeShapes Go.WideShapes Go.ChangeAt Go.RowKit

theorem law_orderTotal (lvs : List LV) (h : fitAll Try.prog Try.f5.params.toList lvs) : Ev Try.prog 5 lvs (.sc (.bool true)) := by
  rw [Try.params5] at h
  obtain ⟨a0, l0, rfl, g0, h⟩ := all1 h
  obtain ⟨a1, l1, rfl, g1, h⟩ := all1 h
  obtain ⟨a2, l2, rfl, g2, h⟩ := all1 h
  obtain ⟨a3, l3, rfl, g3, h⟩ := all1 h
  obtain ⟨a4, l4, rfl, g4, h⟩ := all1 h
  obtain ⟨a5, l5, rfl, g5, h⟩ := all1 h
  obtain rfl := all0 h
  obtain ⟨p, ip, hp⟩ := arg_plan g0
  obtain ⟨up, iup, nup⟩ := arg_bools g1
  obtain ⟨r, rfl, hr⟩ := arg_int g2
  obtain ⟨a, rfl, ha⟩ := arg_u8 g3
  obtain ⟨b, rfl, hb⟩ := arg_u8 g4
  obtain ⟨c, rfl, hc⟩ := arg_u8 g5
  exact ev_im (bs := [plV p, boolsV up, .sc (.int .i64 r), .sc (.int .u8 a), .sc (.int .u8 b), .sc (.int .u8 c)]) ⟨ip, iup, Im.refl _, Im.refl _, Im.refl _, Im.refl _, trivial⟩ (ev_lawTotal p hp up r hr a b c ha hb hc)
set_option maxRecDepth 100000 in
theorem lifted_orderTotal (os : Os) (started : os.Started) (H : Type) (enc : TypeId × Value → H) :
    ReturnsInHanded {} Try.checked os 5 .any (Rows.orderTotalSpec.pre6 enc Try.prog Try.f5 Rows.orderTotalRow.domain false) (Rows.orderTotalSpec.post enc Try.prog Try.f5 false true false false) := by
  refine law_lifted (C := Try.checked) (tb := 4) Try.own' started Try.laidOut' (by kernel_rfl) Try.func5
    (ChangeSpec.witness6 (enc := enc) (C := Try.checked) false ⟨#[], #[.agg #[.slice none 0 0, .slice none 0 0], .slice none 0 0, .int .i64 0, .int .u8 0, .int .u8 0, .int .u8 0], []⟩ 8 (by kernel_rfl) (by kernel_rfl) (by kernel_rfl) (by kernel_rfl))
    (by kernel_rfl) Try.underlying4 rfl (fun ds hd => ?_) (by kernel_rfl) law_orderTotal
  have hd : ds.length = 6 := hd
  match ds, hd with
  | [d1, d2, d3, d4, d5, d6], _ => exact ⟨rfl, rfl, rfl⟩
theorem orderTotal_holds : Rows.OrderTotalSaid :=
  OpenClaim.holds_of_wide 5 Try.f5 rfl rfl rfl rfl rfl rfl rfl ⟨rfl, rfl, rfl, rfl, rfl⟩ rfl rfl rfl rfl rfl (by kernel_rfl) Try.func5 (by kernel_rfl)
    (of_decide_eq_true (by kernel_rfl)) (by unfold Func.isWrapper; first | (rw [if_pos (by decide +kernel)]; kernel_rfl) | (rw [if_neg (by decide +kernel)]; exact ⟨rfl, rfl⟩))
    (fun os started H enc _ => lifted_orderTotal os started H enc)
end Go.Proofs.Ytggaonafmiklaaa
