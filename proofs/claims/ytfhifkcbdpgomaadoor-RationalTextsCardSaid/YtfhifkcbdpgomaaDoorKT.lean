/- For every number and text Text and Parse return the specified results. Conditions: none. -/
import Derived.Test.YtfhifkcbdpgomaaDoorMH
import Derived.Test.YtfhifkcbdpgomaaDoorTie
import Derived.Test.YtfhifkcbdpgomaaDoorCards
import Derived.SevenTiedAt
import Derived.Stop.Joined
namespace Go.Proofs.YtfhifkcbdpgomaaDoor
set_option linter.unusedSimpArgs false
set_option linter.unusedVariables false
open Go.ChangeShapes Go.WideShapes Go.ChangeAt Go.RowKit

theorem card_paramsRationalTexts (fn : Func) (h : fn.params.toList.all (fun t => !Tryd.prog.wantsStandIn t) = true) (j : Nat) (t : TypeId) (ht : fn.params[j]? = some t) : Tryd.prog.wantsStandIn t = false := by
  have := List.all_eq_true.1 h t (by rw [← Array.getElem?_toList] at ht; exact List.mem_of_getElem? ht)
  simpa using this
theorem law_rationalTexts (lvs : List LV) (h : fitAll Tryd.prog Tryd.f3.params.toList lvs) : Ev Tryd.prog 3 lvs (.sc (.bool true)) := by
  rw [Tryd.params3] at h
  obtain ⟨a0, l0, rfl, g0, h⟩ := all1 h
  obtain ⟨a1, l1, rfl, g1, h⟩ := all1 h
  obtain rfl := all0 h
  obtain ⟨r, rfl, hr⟩ := arg_rat g0
  obtain ⟨s, rfl, hs⟩ := arg_str g1
  exact ev_im (bs := [ratV r, .sc (.string s)]) ⟨Im.refl _, Im.refl _, trivial⟩ (ev_lawTextsB r hr s)
set_option maxRecDepth 100000 in
theorem lifted_rationalTexts (os : Os) (started : os.Started) (H : Type) (enc : TypeId × Value → H) :
    ReturnsInHanded {} Tryd.checked os 3 .any (fun w args => (Rows.rationalTextsSpec.pre enc Tryd.prog Tryd.f3 [] false w args ∧ laidMetH Tryd.prog Rows.rationalTextsRow.laid w) ∧ sizedMet enc Tryd.prog Tryd.f3 (OpenSpec.ofChange Rows.rationalTextsSpec) false w args) (Rows.rationalTextsSpec.post enc Tryd.prog Tryd.f3 false true false false) := by
  refine law_liftedL (C := Tryd.checked) (tb := 4) Rows.rationalTextsRow.laid Tryd.own' started Tryd.laidOut' (by kernel_rfl) Tryd.func3
    (ChangeSpec.witness_shaped (enc := enc) (C := Tryd.checked) (os := os) (X := fun w _ => laidMetH Tryd.prog Rows.rationalTextsRow.laid w) false (World.laidAll Tryd.prog os Rows.rationalTextsRow.laid) #[.agg #[.int .i64 0, .int .i64 0], .string ⟨#[]⟩] 8 (World.laidAll_os _ _ _)
      (World.shaped_of_ZipB (by kernel_rfl) (by kernel_rfl)) (by kernel_rfl) (by kernel_rfl) (by kernel_rfl)
      (by rw [MakeChecks.laidMetH_plain _ _ _ (by kernel_rfl)]; exact laidMet_laidAll _ (by kernel_rfl) (by kernel_rfl)))
    (by kernel_rfl) Tryd.underlying4 rfl (fun ds hd => ?_) (by kernel_rfl) (fun _ _ hh h => h.of_heap hh) (fun _ h s => gx_of2 h (by kernel_rfl) s) law_rationalTexts
  have hd : ds.length = 2 := hd
  match ds, hd with
  | [d1, d2], _ => exact ⟨rfl, rfl, rfl⟩
theorem rationalTexts_holds : Rows.RationalTextsSaid :=
  OpenClaim.holds_of_wide 3 Tryd.f3 rfl rfl rfl rfl rfl rfl rfl ⟨rfl, rfl, rfl, rfl, rfl⟩ rfl rfl rfl rfl rfl (by kernel_rfl) Tryd.func3 (by kernel_rfl)
    (of_decide_eq_true (by kernel_rfl)) (by unfold Func.isWrapper; first | (rw [if_pos (by decide +kernel)]; kernel_rfl) | (rw [if_neg (by decide +kernel)]; exact ⟨rfl, rfl⟩))
    (fun os started H enc _ => lifted_rationalTexts os started H enc)
theorem rationalTexts_card : Rows.RationalTextsCardSaid :=
  Claim7.holds_tied_plain_at .later [] Rows.rationalTextsCard.laidKinds true Rows.rationalTextsCard.stood.harness true
    rationalTexts_holds (fun _ h => by cases h) (by kernel_rfl) (fun _ h => by cases h) rationalTexts_row_tie rfl ⟨rfl, rfl⟩ (by kernel_rfl) rfl
    (fun f fn hf hfn => by
      obtain rfl : f = 3 := Option.some.inj ((show Tryd.prog.funcNamed Rows.rationalTextsRow.func = some 3 by kernel_rfl).symm.trans hf) |>.symm
      obtain rfl : fn = Tryd.f3 := (Option.some.inj (Tryd.func3.symm.trans hfn)).symm
      exact ⟨by kernel_rfl, fun j t ht => card_paramsRationalTexts Tryd.f3 (by kernel_rfl) j t ht⟩)
    (by kernel_rfl)
end Go.Proofs.YtfhifkcbdpgomaaDoor
