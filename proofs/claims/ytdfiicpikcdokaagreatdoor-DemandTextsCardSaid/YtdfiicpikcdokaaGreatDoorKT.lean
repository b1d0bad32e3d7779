/- For every net the text is that of the reference, and is read as that net. Conditions: none. -/
import Derived.Test.YtdfiicpikcdokaaGreatDoorMI
import Derived.Test.YtdfiicpikcdokaaGreatDoorTie
import Derived.Test.YtdfiicpikcdokaaGreatDoorCards
import Derived.SevenTiedAt
import Derived.Stop.Joined
namespace Go.Proofs.YtdfiicpikcdokaaGreatDoor
set_option linter.unusedSimpArgs false
set_option linter.unusedVariables false
open Go.ChangeShapes Go.WideShapes Go.ChangeAt Go.RowKit

theorem card_paramsDemandTexts (fn : Func) (h : fn.params.toList.all (fun t => !Tryz.prog.wantsStandIn t) = true) (j : Nat) (t : TypeId) (ht : fn.params[j]? = some t) : Tryz.prog.wantsStandIn t = false := by
  have := List.all_eq_true.1 h t (by rw [← Array.getElem?_toList] at ht; exact List.mem_of_getElem? ht)
  simpa using this
theorem law_demandTexts (lvs : List LV) (h : fitAll Tryz.prog Tryz.f3.params.toList lvs) : Ev Tryz.prog 3 lvs (.sc (.bool true)) := by
  rw [Tryz.params3] at h
  obtain ⟨a0, l0, rfl, g0, h⟩ := all1 h
  obtain rfl := all0 h
  obtain ⟨q, iq, hq⟩ := arg_net g0
  exact ev_im (bs := [netV q]) ⟨iq, trivial⟩ (ev_lawTexts33 q hq)
set_option maxRecDepth 100000 in
theorem lifted_demandTexts (os : Os) (started : os.Started) (H : Type) (enc : TypeId × Value → H) :
    ReturnsInHanded {} Tryz.checked os 3 .any (fun w args => (Rows.demandTextsSpec.pre enc Tryz.prog Tryz.f3 [] false w args ∧ laidMetH Tryz.prog Rows.demandTextsRow.laid w) ∧ sizedMet enc Tryz.prog Tryz.f3 (OpenSpec.ofChange Rows.demandTextsSpec) false w args) (Rows.demandTextsSpec.post enc Tryz.prog Tryz.f3 false true false false) := by
  refine law_liftedL (C := Tryz.checked) (tb := 4) Rows.demandTextsRow.laid Tryz.own' started Tryz.laidOut' (by kernel_rfl) Tryz.func3
    (ChangeSpec.witness_shaped (enc := enc) (C := Tryz.checked) (os := os) (X := fun w _ => laidMetH Tryz.prog Rows.demandTextsRow.laid w) false (World.laidAll Tryz.prog os Rows.demandTextsRow.laid) #[.agg #[.slice none 0 0, .slice none 0 0]] 8 (World.laidAll_os _ _ _)
      (World.shaped_of_ZipB (by kernel_rfl) (by kernel_rfl)) (by kernel_rfl) (by kernel_rfl) (by kernel_rfl)
      (by rw [MakeChecks.laidMetH_plain _ _ _ (by kernel_rfl)]; exact laidMet_laidAll _ (by kernel_rfl) (by kernel_rfl)))
    (by kernel_rfl) Tryz.underlying4 rfl (fun ds hd => ?_) (by kernel_rfl) (fun _ _ hh h => h.of_heap hh) (fun _ h s => gx_of h (by kernel_rfl) s) law_demandTexts
  have hd : ds.length = 1 := hd
  match ds, hd with
  | [d1], _ => exact ⟨rfl, rfl, rfl⟩
theorem demandTexts_holds : Rows.DemandTextsSaid :=
  OpenClaim.holds_of_wide 3 Tryz.f3 rfl rfl rfl rfl rfl rfl rfl ⟨rfl, rfl, rfl, rfl, rfl⟩ rfl rfl rfl rfl rfl (by kernel_rfl) Tryz.func3 (by kernel_rfl)
    (of_decide_eq_true (by kernel_rfl)) (by unfold Func.isWrapper; first | (rw [if_pos (by decide +kernel)]; kernel_rfl) | (rw [if_neg (by decide +kernel)]; exact ⟨rfl, rfl⟩))
    (fun os started H enc _ => lifted_demandTexts os started H enc)
theorem demandTexts_card : Rows.DemandTextsCardSaid :=
  Claim7.holds_tied_plain_at .later [] Rows.demandTextsCard.laidKinds true Rows.demandTextsCard.stood.harness true
    demandTexts_holds (fun _ h => by cases h) (by kernel_rfl) (fun _ h => by cases h) demandTexts_row_tie rfl ⟨rfl, rfl⟩ (by kernel_rfl) rfl
    (fun f fn hf hfn => by
      obtain rfl : f = 3 := Option.some.inj ((show Tryz.prog.funcNamed Rows.demandTextsRow.func = some 3 by kernel_rfl).symm.trans hf) |>.symm
      obtain rfl : fn = Tryz.f3 := (Option.some.inj (Tryz.func3.symm.trans hfn)).symm
      exact ⟨by kernel_rfl, fun j t ht => card_paramsDemandTexts Tryz.f3 (by kernel_rfl) j t ht⟩)
    (by kernel_rfl)
end Go.Proofs.YtdfiicpikcdokaaGreatDoor
