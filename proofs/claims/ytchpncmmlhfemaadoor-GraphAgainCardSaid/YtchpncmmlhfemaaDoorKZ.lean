/- What is parsed as a plan is the plan's text; the line of a fault does not depend on what follows. Conditions: none. -/
import Derived.Test.YtchpncmmlhfemaaDoorMG
import Derived.Test.YtchpncmmlhfemaaDoorTie
import Derived.Test.YtchpncmmlhfemaaDoorCards
import Derived.SevenTiedAt
import Derived.Stop.Joined
namespace Go.Proofs.YtchpncmmlhfemaaDoor
set_option linter.unusedSimpArgs false
set_option linter.unusedVariables false
open Go.ChangeShapes Go.WideShapes Go.ChangeAt Go.RowKit

theorem card_paramsGraphAgain (fn : Func) (h : fn.params.toList.all (fun t => !Tryd.prog.wantsStandIn t) = true) (j : Nat) (t : TypeId) (ht : fn.params[j]? = some t) : Tryd.prog.wantsStandIn t = false := by
  have := List.all_eq_true.1 h t (by rw [← Array.getElem?_toList] at ht; exact List.mem_of_getElem? ht)
  simpa using this
theorem law_graphAgain (lvs : List LV) (h : fitAll Tryd.prog Tryd.f10.params.toList lvs) : Ev Tryd.prog 10 lvs (.sc (.bool true)) := by
  rw [Tryd.params10] at h
  obtain ⟨a0, l0, rfl, g0, h⟩ := all1 h
  obtain ⟨a1, l1, rfl, g1, h⟩ := all1 h
  obtain rfl := all0 h
  obtain ⟨s, rfl, hs⟩ := arg_str g0
  obtain ⟨more, rfl, hmore⟩ := arg_str g1
  exact ev_im (bs := [.sc (.string s), .sc (.string more)]) ⟨Im.refl _, Im.refl _, trivial⟩ (by rw [← strB_of s, ← strB_of more]; exact ev_lawAgain _ _)
set_option maxRecDepth 100000 in
theorem lifted_graphAgain (os : Os) (started : os.Started) (H : Type) (enc : TypeId × Value → H) :
    ReturnsInHanded {} Tryd.checked os 10 .any (fun w args => (Rows.graphAgainSpec.pre enc Tryd.prog Tryd.f10 [] false w args ∧ laidMetH Tryd.prog Rows.graphAgainRow.laid w) ∧ sizedMet enc Tryd.prog Tryd.f10 (OpenSpec.ofChange Rows.graphAgainSpec) false w args) (Rows.graphAgainSpec.post enc Tryd.prog Tryd.f10 false true false false) := by
  refine law_liftedL (C := Tryd.checked) (tb := 4) Rows.graphAgainRow.laid Tryd.own' started Tryd.laidOut' (by kernel_rfl) Tryd.func10
    (ChangeSpec.witness_shaped (enc := enc) (C := Tryd.checked) (os := os) (X := fun w _ => laidMetH Tryd.prog Rows.graphAgainRow.laid w) false (World.laidAll Tryd.prog os Rows.graphAgainRow.laid) #[.string ⟨#[]⟩, .string ⟨#[]⟩] 8 (World.laidAll_os _ _ _)
      (World.shaped_of_ZipB (by kernel_rfl) (by kernel_rfl)) (by kernel_rfl) (by kernel_rfl) (by kernel_rfl)
      (by rw [MakeChecks.laidMetH_plain _ _ _ (by kernel_rfl)]; exact laidMet_laidAll _ (by kernel_rfl) (by kernel_rfl)))
    (by kernel_rfl) Tryd.underlying4 rfl (fun ds hd => ?_) (by kernel_rfl) (fun _ _ hh h => h.of_heap hh) (fun _ h s => gx_of14 h (by kernel_rfl) s) law_graphAgain
  have hd : ds.length = 2 := hd
  match ds, hd with
  | [d1, d2], _ => exact ⟨rfl, rfl, rfl⟩
theorem graphAgain_holds : Rows.GraphAgainSaid :=
  OpenClaim.holds_of_wide 10 Tryd.f10 rfl rfl rfl rfl rfl rfl rfl ⟨rfl, rfl, rfl, rfl, rfl⟩ rfl rfl rfl rfl rfl (by kernel_rfl) Tryd.func10 (by kernel_rfl)
    (of_decide_eq_true (by kernel_rfl)) (by unfold Func.isWrapper; first | (rw [if_pos (by decide +kernel)]; kernel_rfl) | (rw [if_neg (by decide +kernel)]; exact ⟨rfl, rfl⟩))
    (fun os started H enc _ => lifted_graphAgain os started H enc)
theorem graphAgain_card : Rows.GraphAgainCardSaid :=
  Claim7.holds_tied_plain_at .later [] Rows.graphAgainCard.laidKinds true Rows.graphAgainCard.stood.harness false
    graphAgain_holds (fun _ h => by cases h) (by kernel_rfl) (fun _ h => by cases h) graphAgain_row_tie rfl ⟨rfl, rfl⟩ (by kernel_rfl) rfl
    (fun f fn hf hfn => by
      obtain rfl : f = 10 := Option.some.inj ((show Tryd.prog.funcNamed Rows.graphAgainRow.func = some 10 by kernel_rfl).symm.trans hf) |>.symm
      obtain rfl : fn = Tryd.f10 := (Option.some.inj (Tryd.func10.symm.trans hfn)).symm
      exact ⟨by kernel_rfl, fun j t ht => card_paramsGraphAgain Tryd.f10 (by kernel_rfl) j t ht⟩)
    (by kernel_rfl)
end Go.Proofs.YtchpncmmlhfemaaDoor
