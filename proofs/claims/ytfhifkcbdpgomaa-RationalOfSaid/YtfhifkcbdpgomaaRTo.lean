/- For every two ints and number: the law's function answers true, and its arguments read as they did. Conditions: none. -/
import Derived.Test.YtfhifkcbdpgomaaRT
namespace Go.Proofs.Ytfhifkcbdpgomaa
set_option linter.unusedSimpArgs false
set_option linter.unusedVariables false
open Go.ChangeShapes Go.WideShapes Go.ChangeAt Go.RowKit

theorem law_rationalOf (lvs : List LV) (h : fitAll Try.prog Try.f5.params.toList lvs) : Ev Try.prog 5 lvs (.sc (.bool true)) := by
  rw [Try.params5] at h
  obtain ⟨a0, l0, rfl, g0, h⟩ := all1 h
  obtain ⟨a1, l1, rfl, g1, h⟩ := all1 h
  obtain ⟨a2, l2, rfl, g2, h⟩ := all1 h
  obtain rfl := all0 h
  obtain ⟨n, rfl, hn⟩ := arg_int g0
  obtain ⟨d, rfl, hd⟩ := arg_int g1
  obtain ⟨r, rfl, hr⟩ := arg_rat g2
  exact ev_im (bs := [.sc (.int .i64 n), .sc (.int .i64 d), ratV r]) ⟨Im.refl _, Im.refl _, Im.refl _, trivial⟩ (ev_lawOf n d r hn hd hr)
set_option maxRecDepth 100000 in
theorem lifted_rationalOf (os : Os) (started : os.Started) (H : Type) (enc : TypeId × Value → H) :
    ReturnsInHanded {} Try.checked os 5 .any (Rows.rationalOfSpec.pre6 enc Try.prog Try.f5 Rows.rationalOfRow.domain false) (Rows.rationalOfSpec.post enc Try.prog Try.f5 false true false false) := by
  refine law_lifted (C := Try.checked) (tb := 4) Try.own' started Try.laidOut' (by kernel_rfl) Try.func5
    (ChangeSpec.witness6 (enc := enc) (C := Try.checked) false ⟨#[], #[.int .i64 0, .int .i64 0, .agg #[.int .i64 0, .int .i64 0]], []⟩ 8 (by kernel_rfl) (by kernel_rfl) (by kernel_rfl) (by kernel_rfl))
    (by kernel_rfl) Try.underlying4 rfl (fun ds hd => ?_) (by kernel_rfl) law_rationalOf
  have hd : ds.length = 3 := hd
  match ds, hd with
  | [d1, d2, d3], _ => exact ⟨rfl, rfl, rfl⟩
theorem rationalOf_holds : Rows.RationalOfSaid :=
  OpenClaim.holds_of_wide 5 Try.f5 rfl rfl rfl rfl rfl rfl rfl ⟨rfl, rfl, rfl, rfl, rfl⟩ rfl rfl rfl rfl rfl (by kernel_rfl) Try.func5 (by kernel_rfl)
    (of_decide_eq_true (by kernel_rfl)) (by unfold Func.isWrapper; first | (rw [if_pos (by decide +kernel)]; kernel_rfl) | (rw [if_neg (by decide +kernel)]; exact ⟨rfl, rfl⟩))
    (fun os started H enc _ => lifted_rationalOf os started H enc)
end Go.Proofs.Ytfhifkcbdpgomaa
