/- For every net and all rates the loads of a sum of rates are the sums of the loads, as long as no number is too big. Conditions: none. -/
import Derived.Test.YtdfiicpikcdokaaDoorMG
import Derived.Test.YtdfiicpikcdokaaDoorTie
import Derived.Test.YtdfiicpikcdokaaDoorCards
import Derived.SevenTiedAt
import Derived.Stop.Joined
namespace Go.Proofs.YtdfiicpikcdokaaDoor
set_option linter.unusedSimpArgs false
set_option linter.unusedVariables false
open Go.ChangeShapes Go.WideShapes Go.ChangeAt Go.RowKit

theorem card_paramsDemandLinear (fn : Func) (h : fn.params.toList.all (fun t => !Tryd.prog.wantsStandIn t) = true) (j : Nat) (t : TypeId) (ht : fn.params[j]? = some t) : Tryd.prog.wantsStandIn t = false := by
  have := List.all_eq_true.1 h t (by rw [← Array.getElem?_toList] at ht; exact List.mem_of_getElem? ht)
  simpa using this
theorem law_demandLinear (lvs : List LV) (h : fitAll Tryd.prog Tryd.f4.params.toList lvs) : Ev Tryd.prog 4 lvs (.sc (.bool true)) := by
  rw [Tryd.params4] at h
  obtain ⟨a0, l0, rfl, g0, h⟩ := all1 h
  obtain ⟨a1, l1, rfl, g1, h⟩ := all1 h
  obtain ⟨a2, l2, rfl, g2, h⟩ := all1 h
  obtain rfl := all0 h
  obtain ⟨p, ip, hp⟩ := arg_net g0
  obtain ⟨a, ia, ha, na⟩ := arg_rats g1
  obtain ⟨b, ib, hb, nb⟩ := arg_rats g2
  exact ev_im (bs := [netV p, ratsV a, ratsV b]) ⟨ip, ia, ib, trivial⟩ (ev_lawLinear p hp a b ha hb)
set_option maxRecDepth 100000 in
theorem lifted_demandLinear (os : Os) (started : os.Started) (H : Type) (enc : TypeId × Value → H) :
    ReturnsInHanded {} Tryd.checked os 4 .any (fun w args => (Rows.demandLinearSpec.pre enc Tryd.prog Tryd.f4 [] false w args ∧ laidMetH Tryd.prog Rows.demandLinearRow.laid w) ∧ sizedMet enc Tryd.prog Tryd.f4 (OpenSpec.ofChange Rows.demandLinearSpec) false w args) (Rows.demandLinearSpec.post enc Tryd.prog Tryd.f4 false true false false) := by
  refine law_liftedL (C := Tryd.checked) (tb := 4) Rows.demandLinearRow.laid Tryd.own' started Tryd.laidOut' (by kernel_rfl) Tryd.func4
    (ChangeSpec.witness_shaped (enc := enc) (C := Tryd.checked) (os := os) (X := fun w _ => laidMetH Tryd.prog Rows.demandLinearRow.laid w) false (World.laidAll Tryd.prog os Rows.demandLinearRow.laid) #[.agg #[.slice none 0 0, .slice none 0 0], .slice none 0 0, .slice none 0 0] 8 (World.laidAll_os _ _ _)
      (World.shaped_of_ZipB (by kernel_rfl) (by kernel_rfl)) (by kernel_rfl) (by kernel_rfl) (by kernel_rfl)
      (by rw [MakeChecks.laidMetH_plain _ _ _ (by kernel_rfl)]; exact laidMet_laidAll _ (by kernel_rfl) (by kernel_rfl)))
    (by kernel_rfl) Tryd.underlying4 rfl (fun ds hd => ?_) (by kernel_rfl) (fun _ _ hh h => h.of_heap hh) (fun _ _ _ => trivial) law_demandLinear
  have hd : ds.length = 3 := hd
  match ds, hd with
  | [d1, d2, d3], _ => exact ⟨rfl, rfl, rfl⟩
theorem demandLinear_holds : Rows.DemandLinearSaid :=
  OpenClaim.holds_of_wide 4 Tryd.f4 rfl rfl rfl rfl rfl rfl rfl ⟨rfl, rfl, rfl, rfl, rfl⟩ rfl rfl rfl rfl rfl (by kernel_rfl) Tryd.func4 (by kernel_rfl)
    (of_decide_eq_true (by kernel_rfl)) (by unfold Func.isWrapper; first | (rw [if_pos (by decide +kernel)]; kernel_rfl) | (rw [if_neg (by decide +kernel)]; exact ⟨rfl, rfl⟩))
    (fun os started H enc _ => lifted_demandLinear os started H enc)
theorem demandLinear_card : Rows.DemandLinearCardSaid :=
  Claim7.holds_tied_plain_at .later [] Rows.demandLinearCard.laidKinds true Rows.demandLinearCard.stood.harness false
    demandLinear_holds (fun _ h => by cases h) (by kernel_rfl) (fun _ h => by cases h) demandLinear_row_tie rfl ⟨rfl, rfl⟩ (by kernel_rfl) rfl
    (fun f fn hf hfn => by
      obtain rfl : f = 4 := Option.some.inj ((show Tryd.prog.funcNamed Rows.demandLinearRow.func = some 4 by kernel_rfl).symm.trans hf) |>.symm
      obtain rfl : fn = Tryd.f4 := (Option.some.inj (Tryd.func4.symm.trans hfn)).symm
      exact ⟨by kernel_rfl, fun j t ht => card_paramsDemandLinear Tryd.f4 (by kernel_rfl) j t ht⟩)
    (by kernel_rfl)
end Go.Proofs.YtdfiicpikcdokaaDoor
