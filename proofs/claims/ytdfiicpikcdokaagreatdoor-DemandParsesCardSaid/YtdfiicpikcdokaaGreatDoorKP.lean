/- Every text is read as the reference reads it, or refused with its line. Conditions: none. -/
import Derived.Test.YtdfiicpikcdokaaGreatDoorMI
import Derived.Test.YtdfiicpikcdokaaGreatDoorTie
import Derived.Test.YtdfiicpikcdokaaGreatDoorCards
import Derived.SevenTiedAt
import Derived.Stop.Joined
namespace Go.Proofs.YtdfiicpikcdokaaGreatDoor
set_option linter.unusedSimpArgs false
set_option linter.unusedVariables false
open Go.ChangeShapes Go.WideShapes Go.ChangeAt Go.RowKit

theorem card_paramsDemandParses (fn : Func) (h : fn.params.toList.all (fun t => !Tryz.prog.wantsStandIn t) = true) (j : Nat) (t : TypeId) (ht : fn.params[j]? = some t) : Tryz.prog.wantsStandIn t = false := by
  have := List.all_eq_true.1 h t (by rw [← Array.getElem?_toList] at ht; exact List.mem_of_getElem? ht)
  simpa using this
theorem law_demandParses (lvs : List LV) (h : fitAll Tryz.prog Tryz.f4.params.toList lvs) : Ev Tryz.prog 4 lvs (.sc (.bool true)) := by
  rw [Tryz.params4] at h
  obtain ⟨a0, l0, rfl, g0, h⟩ := all1 h
  obtain rfl := all0 h
  obtain ⟨s, rfl, hs⟩ := arg_str g0
  exact ev_im (bs := [.sc (.string s)]) ⟨Im.refl _, trivial⟩ (ev_lawParsesB33 s)
set_option maxRecDepth 100000 in
theorem lifted_demandParses (os : Os) (started : os.Started) (H : Type) (enc : TypeId × Value → H) :
    ReturnsInHanded {} Tryz.checked os 4 .any (fun w args => (Rows.demandParsesSpec.pre enc Tryz.prog Tryz.f4 [] false w args ∧ laidMetH Tryz.prog Rows.demandParsesRow.laid w) ∧ sizedMet enc Tryz.prog Tryz.f4 (OpenSpec.ofChange Rows.demandParsesSpec) false w args) (Rows.demandParsesSpec.post enc Tryz.prog Tryz.f4 false true false false) := by
  refine law_liftedL (C := Tryz.checked) (tb := 4) Rows.demandParsesRow.laid Tryz.own' started Tryz.laidOut' (by kernel_rfl) Tryz.func4
    (ChangeSpec.witness_shaped (enc := enc) (C := Tryz.checked) (os := os) (X := fun w _ => laidMetH Tryz.prog Rows.demandParsesRow.laid w) false (World.laidAll Tryz.prog os Rows.demandParsesRow.laid) #[.string ⟨#[]⟩] 8 (World.laidAll_os _ _ _)
      (World.shaped_of_ZipB (by kernel_rfl) (by kernel_rfl)) (by kernel_rfl) (by kernel_rfl) (by kernel_rfl)
      (by rw [MakeChecks.laidMetH_plain _ _ _ (by kernel_rfl)]; exact laidMet_laidAll _ (by kernel_rfl) (by kernel_rfl)))
    (by kernel_rfl) Tryz.underlying4 rfl (fun ds hd => ?_) (by kernel_rfl) (fun _ _ hh h => h.of_heap hh) (fun _ h s => gx_of h (by kernel_rfl) s) law_demandParses
  have hd : ds.length = 1 := hd
  match ds, hd with
  | [d1], _ => exact ⟨rfl, rfl, rfl⟩
theorem demandParses_holds : Rows.DemandParsesSaid :=
  OpenClaim.holds_of_wide 4 Tryz.f4 rfl rfl rfl rfl rfl rfl rfl ⟨rfl, rfl, rfl, rfl, rfl⟩ rfl rfl rfl rfl rfl (by kernel_rfl) Tryz.func4 (by kernel_rfl)
    (of_decide_eq_true (by kernel_rfl)) (by unfold Func.isWrapper; first | (rw [if_pos (by decide +kernel)]; kernel_rfl) | (rw [if_neg (by decide +kernel)]; exact ⟨rfl, rfl⟩))
    (fun os started H enc _ => lifted_demandParses os started H enc)
theorem demandParses_card : Rows.DemandParsesCardSaid :=
  Claim7.holds_tied_plain_at .later [] Rows.demandParsesCard.laidKinds true Rows.demandParsesCard.stood.harness true
    demandParses_holds (fun _ h => by cases h) (by kernel_rfl) (fun _ h => by cases h) demandParses_row_tie rfl ⟨rfl, rfl⟩ (by kernel_rfl) rfl
    (fun f fn hf hfn => by
      obtain rfl : f = 4 := Option.some.inj ((show Tryz.prog.funcNamed Rows.demandParsesRow.func = some 4 by kernel_rfl).symm.trans hf) |>.symm
      obtain rfl : fn = Tryz.f4 := (Option.some.inj (Tryz.func4.symm.trans hfn)).symm
      exact ⟨by kernel_rfl, fun j t ht => card_paramsDemandParses Tryz.f4 (by kernel_rfl) j t ht⟩)
    (by kernel_rfl)
end Go.Proofs.YtdfiicpikcdokaaGreatDoor
