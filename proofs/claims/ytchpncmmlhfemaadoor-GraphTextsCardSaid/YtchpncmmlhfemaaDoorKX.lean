/- For every plan Format returns the specified text, or the error, and Parse returns the plan again. Conditions: none. -/
import Derived.Test.YtchpncmmlhfemaaDoorMG
import Derived.Test.YtchpncmmlhfemaaDoorTie
import Derived.Test.YtchpncmmlhfemaaDoorCards
import Derived.SevenTiedAt
import Derived.Stop.Joined
namespace Go.Proofs.YtchpncmmlhfemaaDoor
set_option linter.unusedSimpArgs false
set_option linter.unusedVariables false
open Go.ChangeShapes Go.WideShapes Go.ChangeAt Go.RowKit

theorem card_paramsGraphTexts (fn : Func) (h : fn.params.toList.all (fun t => !Tryd.prog.wantsStandIn t) = true) (j : Nat) (t : TypeId) (ht : fn.params[j]? = some t) : Tryd.prog.wantsStandIn t = false := by
  have := List.all_eq_true.1 h t (by rw [← Array.getElem?_toList] at ht; exact List.mem_of_getElem? ht)
  simpa using this
theorem law_graphTexts (lvs : List LV) (h : fitAll Tryd.prog Tryd.f9.params.toList lvs) : Ev Tryd.prog 9 lvs (.sc (.bool true)) := by
  rw [Tryd.params9] at h
  obtain ⟨a0, l0, rfl, g0, h⟩ := all1 h
  obtain rfl := all0 h
  obtain ⟨p, ip, hp⟩ := arg_plan g0
  exact ev_im (bs := [plV p]) ⟨ip, trivial⟩ (ev_lawTexts14 p hp)
set_option maxRecDepth 100000 in
theorem lifted_graphTexts (os : Os) (started : os.Started) (H : Type) (enc : TypeId × Value → H) :
    ReturnsInHanded {} Tryd.checked os 9 .any (fun w args => (Rows.graphTextsSpec.pre enc Tryd.prog Tryd.f9 [] false w args ∧ laidMetH Tryd.prog Rows.graphTextsRow.laid w) ∧ sizedMet enc Tryd.prog Tryd.f9 (OpenSpec.ofChange Rows.graphTextsSpec) false w args) (Rows.graphTextsSpec.post enc Tryd.prog Tryd.f9 false true false false) := by
  refine law_liftedL (C := Tryd.checked) (tb := 4) Rows.graphTextsRow.laid Tryd.own' started Tryd.laidOut' (by kernel_rfl) Tryd.func9
    (ChangeSpec.witness_shaped (enc := enc) (C := Tryd.checked) (os := os) (X := fun w _ => laidMetH Tryd.prog Rows.graphTextsRow.laid w) false (World.laidAll Tryd.prog os Rows.graphTextsRow.laid) #[.agg #[.slice none 0 0, .slice none 0 0]] 8 (World.laidAll_os _ _ _)
      (World.shaped_of_ZipB (by kernel_rfl) (by kernel_rfl)) (by kernel_rfl) (by kernel_rfl) (by kernel_rfl)
      (by rw [MakeChecks.laidMetH_plain _ _ _ (by kernel_rfl)]; exact laidMet_laidAll _ (by kernel_rfl) (by kernel_rfl)))
    (by kernel_rfl) Tryd.underlying4 rfl (fun ds hd => ?_) (by kernel_rfl) (fun _ _ hh h => h.of_heap hh) (fun _ h s => gx_of14 h (by kernel_rfl) s) law_graphTexts
  have hd : ds.length = 1 := hd
  match ds, hd with
  | [d1], _ => exact ⟨rfl, rfl, rfl⟩
theorem graphTexts_holds : Rows.GraphTextsSaid :=
  OpenClaim.holds_of_wide 9 Tryd.f9 rfl rfl rfl rfl rfl rfl rfl ⟨rfl, rfl, rfl, rfl, rfl⟩ rfl rfl rfl rfl rfl (by kernel_rfl) Tryd.func9 (by kernel_rfl)
    (of_decide_eq_true (by kernel_rfl)) (by unfold Func.isWrapper; first | (rw [if_pos (by decide +kernel)]; kernel_rfl) | (rw [if_neg (by decide +kernel)]; exact ⟨rfl, rfl⟩))
    (fun os started H enc _ => lifted_graphTexts os started H enc)
theorem graphTexts_card : Rows.GraphTextsCardSaid :=
  Claim7.holds_tied_plain_at .later [] Rows.graphTextsCard.laidKinds true Rows.graphTextsCard.stood.harness false
    graphTexts_holds (fun _ h => by cases h) (by kernel_rfl) (fun _ h => by cases h) graphTexts_row_tie rfl ⟨rfl, rfl⟩ (by kernel_rfl) rfl
    (fun f fn hf hfn => by
      obtain rfl : f = 9 := Option.some.inj ((show Tryd.prog.funcNamed Rows.graphTextsRow.func = some 9 by kernel_rfl).symm.trans hf) |>.symm
      obtain rfl : fn = Tryd.f9 := (Option.some.inj (Tryd.func9.symm.trans hfn)).symm
      exact ⟨by kernel_rfl, fun j t ht => card_paramsGraphTexts Tryd.f9 (by kernel_rfl) j t ht⟩)
    (by kernel_rfl)
end Go.Proofs.YtchpncmmlhfemaaDoor
