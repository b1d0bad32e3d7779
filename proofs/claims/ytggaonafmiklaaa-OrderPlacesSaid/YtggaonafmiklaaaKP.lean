/- The places are the numbers from 0 on, in the order of the nodes. Conditions: none. -/
import Derived.Test.YtggaonafmiklaaaMG
namespace Go.Proofs.Ytggaonafmiklaaa
set_option linter.unusedSimpArgs false
set_option linter.unusedVariables false
open Go.ChangeShapes Go.WideShapes Go.ChangeAt Go.RowKit

theorem law_orderPlaces (lvs : List LV) (h : fitAll Try.prog Try.f8.params.toList lvs) : Ev Try.prog 8 lvs (.sc (.bool true)) := by
  rw [Try.params8] at h
  obtain ⟨a0, l0, rfl, g0, h⟩ := all1 h
  obtain ⟨a1, l1, rfl, g1, h⟩ := all1 h
  obtain ⟨a2, l2, rfl, g2, h⟩ := all1 h
  obtain rfl := all0 h
  obtain ⟨p, ip, hp⟩ := arg_plan g0
  obtain ⟨up, iup, nup⟩ := arg_bools g1
  obtain ⟨r, rfl, hr⟩ := arg_int g2
  exact ev_im (bs := [plV p, boolsV up, .sc (.int .i64 r)]) ⟨ip, iup, Im.refl _, trivial⟩ (ev_lawPlaces p hp up r hr)
set_option maxRecDepth 100000 in
theorem lifted_orderPlaces (os : Os) (started : os.Started) (H : Type) (enc : TypeId × Value → H) :
    ReturnsInHanded {} Try.checked os 8 .any (Rows.orderPlacesSpec.pre6 enc Try.prog Try.f8 Rows.orderPlacesRow.domain false) (Rows.orderPlacesSpec.post enc Try.prog Try.f8 false true false false) := by
  refine law_lifted (C := Try.checked) (tb := 4) Try.own' started Try.laidOut' (by kernel_rfl) Try.func8
    (ChangeSpec.witness6 (enc := enc) (C := Try.checked) false ⟨#[], #[.agg #[.slice none 0 0, .slice none 0 0], .slice none 0 0, .int .i64 0], []⟩ 8 (by kernel_rfl) (by kernel_rfl) (by kernel_rfl) (by kernel_rfl))
    (by kernel_rfl) Try.underlying4 rfl (fun ds hd => ?_) (by kernel_rfl) (fun _ => trivial) law_orderPlaces
  have hd : ds.length = 3 := hd
  match ds, hd with
  | [d1, d2, d3], _ => exact ⟨rfl, rfl, rfl⟩
theorem orderPlaces_holds : Rows.OrderPlacesSaid :=
  OpenClaim.holds_of_wide 8 Try.f8 rfl rfl rfl rfl rfl rfl rfl ⟨rfl, rfl, rfl, rfl, rfl⟩ rfl rfl rfl rfl rfl (by kernel_rfl) Try.func8 (by kernel_rfl)
    (of_decide_eq_true (by kernel_rfl)) (by unfold Func.isWrapper; first | (rw [if_pos (by decide +kernel)]; kernel_rfl) | (rw [if_neg (by decide +kernel)]; exact ⟨rfl, rfl⟩))
    (fun os started H enc _ => lifted_orderPlaces os started H enc)
end Go.Proofs.Ytggaonafmiklaaa
