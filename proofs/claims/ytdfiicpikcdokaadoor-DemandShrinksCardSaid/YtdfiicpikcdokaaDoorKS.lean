/- For every net feasible rates stay feasible if one of them becomes smaller. Conditions: none. -/
import Derived.Test.YtdfiicpikcdokaaDoorMG
import Derived.Test.YtdfiicpikcdokaaDoorTie
import Derived.Test.YtdfiicpikcdokaaDoorCards
import Derived.SevenTiedAt
import Derived.Stop.Joined
namespace Go.Proofs.YtdfiicpikcdokaaDoor
set_option linter.unusedSimpArgs false
set_option linter.unusedVariables false
open Go.ChangeShapes Go.WideShapes Go.ChangeAt Go.RowKit

theorem card_paramsDemandShrinks (fn : Func) (h : fn.params.toList.all (fun t => !Tryd.prog.wantsStandIn t) = true) (j : Nat) (t : TypeId) (ht : fn.params[j]? = some t) : Tryd.prog.wantsStandIn t = false := by
  have := List.all_eq_true.1 h t (by rw [← Array.getElem?_toList] at ht; exact List.mem_of_getElem? ht)
  simpa using this
theorem law_demandShrinks (lvs : List LV) (h : fitAll Tryd.prog Tryd.f6.params.toList lvs) : Ev Tryd.prog 6 lvs (.sc (.bool true)) := by
  rw [Tryd.params6] at h
  obtain ⟨a0, l0, rfl, g0, h⟩ := all1 h
  obtain ⟨a1, l1, rfl, g1, h⟩ := all1 h
  obtain ⟨a2, l2, rfl, g2, h⟩ := all1 h
  obtain ⟨a3, l3, rfl, g3, h⟩ := all1 h
  obtain rfl := all0 h
  obtain ⟨p, ip, hp⟩ := arg_net g0
  obtain ⟨a, ia, ha, na⟩ := arg_rats g1
  obtain ⟨w, rfl, hw⟩ := arg_u8 g2
  obtain ⟨t, rfl, ht⟩ := arg_rat g3
  exact ev_im (bs := [netV p, ratsV a, .sc (.int .u8 w), ratV t]) ⟨ip, ia, Im.refl _, Im.refl _, trivial⟩ (ev_lawShrinks p hp a ha w hw t ht)
set_option maxRecDepth 100000 in
theorem lifted_demandShrinks (os : Os) (started : os.Started) (H : Type) (enc : TypeId × Value → H) :
    ReturnsInHanded {} Tryd.checked os 6 .any (fun w args => (Rows.demandShrinksSpec.pre enc Tryd.prog Tryd.f6 [] false w args ∧ laidMetH Tryd.prog Rows.demandShrinksRow.laid w) ∧ sizedMet enc Tryd.prog Tryd.f6 (OpenSpec.ofChange Rows.demandShrinksSpec) false w args) (Rows.demandShrinksSpec.post enc Tryd.prog Tryd.f6 false true false false) := by
  refine law_liftedL (C := Tryd.checked) (tb := 4) Rows.demandShrinksRow.laid Tryd.own' started Tryd.laidOut' (by kernel_rfl) Tryd.func6
    (ChangeSpec.witness_shaped (enc := enc) (C := Tryd.checked) (os := os) (X := fun w _ => laidMetH Tryd.prog Rows.demandShrinksRow.laid w) false (World.laidAll Tryd.prog os Rows.demandShrinksRow.laid) #[.agg #[.slice none 0 0, .slice none 0 0], .slice none 0 0, .int .u8 0, .agg #[.int .i64 0, .int .i64 0]] 8 (World.laidAll_os _ _ _)
      (World.shaped_of_ZipB (by kernel_rfl) (by kernel_rfl)) (by kernel_rfl) (by kernel_rfl) (by kernel_rfl)
      (by rw [MakeChecks.laidMetH_plain _ _ _ (by kernel_rfl)]; exact laidMet_laidAll _ (by kernel_rfl) (by kernel_rfl)))
    (by kernel_rfl) Tryd.underlying4 rfl (fun ds hd => ?_) (by kernel_rfl) (fun _ _ hh h => h.of_heap hh) (fun _ _ _ => trivial) law_demandShrinks
  have hd : ds.length = 4 := hd
  match ds, hd with
  | [d1, d2, d3, d4], _ => exact ⟨rfl, rfl, rfl⟩
theorem demandShrinks_holds : Rows.DemandShrinksSaid :=
  OpenClaim.holds_of_wide 6 Tryd.f6 rfl rfl rfl rfl rfl rfl rfl ⟨rfl, rfl, rfl, rfl, rfl⟩ rfl rfl rfl rfl rfl (by kernel_rfl) Tryd.func6 (by kernel_rfl)
    (of_decide_eq_true (by kernel_rfl)) (by unfold Func.isWrapper; first | (rw [if_pos (by decide +kernel)]; kernel_rfl) | (rw [if_neg (by decide +kernel)]; exact ⟨rfl, rfl⟩))
    (fun os started H enc _ => lifted_demandShrinks os started H enc)
theorem demandShrinks_card : Rows.DemandShrinksCardSaid :=
  Claim7.holds_tied_plain_at .later [] Rows.demandShrinksCard.laidKinds true Rows.demandShrinksCard.stood.harness false
    demandShrinks_holds (fun _ h => by cases h) (by kernel_rfl) (fun _ h => by cases h) demandShrinks_row_tie rfl ⟨rfl, rfl⟩ (by kernel_rfl) rfl
    (fun f fn hf hfn => by
      obtain rfl : f = 6 := Option.some.inj ((show Tryd.prog.funcNamed Rows.demandShrinksRow.func = some 6 by kernel_rfl).symm.trans hf) |>.symm
      obtain rfl : fn = Tryd.f6 := (Option.some.inj (Tryd.func6.symm.trans hfn)).symm
      exact ⟨by kernel_rfl, fun j t ht => card_paramsDemandShrinks Tryd.f6 (by kernel_rfl) j t ht⟩)
    (by kernel_rfl)
end Go.Proofs.YtdfiicpikcdokaaDoor
