/- For every plan, order, and table Valid and Follow return the specified results. Conditions: none. -/
import Derived.Test.YtcdepkflghcjpaaDoorMI
import Derived.Test.YtcdepkflghcjpaaDoorTie
import Derived.Test.YtcdepkflghcjpaaDoorCards
import Derived.SevenTiedAt
import Derived.Stop.Joined
namespace Go.Proofs.YtcdepkflghcjpaaDoor
set_option linter.unusedSimpArgs false
set_option linter.unusedVariables false
open Go.ChangeShapes Go.WideShapes Go.ChangeAt Go.RowKit

theorem card_paramsRoutesFollows (fn : Func) (h : fn.params.toList.all (fun t => !Tryd.prog.wantsStandIn t) = true) (j : Nat) (t : TypeId) (ht : fn.params[j]? = some t) : Tryd.prog.wantsStandIn t = false := by
  have := List.all_eq_true.1 h t (by rw [← Array.getElem?_toList] at ht; exact List.mem_of_getElem? ht)
  simpa using this
theorem law_routesFollows (lvs : List LV) (h : fitAll Tryd.prog Tryd.f6.params.toList lvs) : Ev Tryd.prog 6 lvs (.sc (.bool true)) := by
  rw [Tryd.params6] at h
  obtain ⟨a0, l0, rfl, g0, h⟩ := all1 h
  obtain ⟨a1, l1, rfl, g1, h⟩ := all1 h
  obtain ⟨a2, l2, rfl, g2, h⟩ := all1 h
  obtain ⟨a3, l3, rfl, g3, h⟩ := all1 h
  obtain ⟨a4, l4, rfl, g4, h⟩ := all1 h
  obtain rfl := all0 h
  obtain ⟨p, ip, hp⟩ := arg_plan g0
  obtain ⟨l, il, hl, nl⟩ := arg_order g1
  obtain ⟨q, iq, hq, nq⟩ := arg_lists g2
  obtain ⟨x, rfl, hx⟩ := arg_int g3
  obtain ⟨w, rfl, hw⟩ := arg_int g4
  exact ev_im (bs := [plV p, .agg [intsV l], llV q, .sc (.int .i64 x), .sc (.int .i64 w)]) ⟨ip, il, iq, Im.refl _, Im.refl _, trivial⟩ (ev_lawFollows p hp l q x w)
set_option maxRecDepth 100000 in
theorem lifted_routesFollows (os : Os) (started : os.Started) (H : Type) (enc : TypeId × Value → H) :
    ReturnsInHanded {} Tryd.checked os 6 .any (fun w args => (Rows.routesFollowsSpec.pre enc Tryd.prog Tryd.f6 [] false w args ∧ laidMetH Tryd.prog Rows.routesFollowsRow.laid w) ∧ sizedMet enc Tryd.prog Tryd.f6 (OpenSpec.ofChange Rows.routesFollowsSpec) false w args) (Rows.routesFollowsSpec.post enc Tryd.prog Tryd.f6 false true false false) := by
  refine law_liftedL (C := Tryd.checked) (tb := 4) Rows.routesFollowsRow.laid Tryd.own' started Tryd.laidOut' (by kernel_rfl) Tryd.func6
    (ChangeSpec.witness_shaped (enc := enc) (C := Tryd.checked) (os := os) (X := fun w _ => laidMetH Tryd.prog Rows.routesFollowsRow.laid w) false (World.laidAll Tryd.prog os Rows.routesFollowsRow.laid) #[.agg #[.slice none 0 0, .slice none 0 0], .agg #[.slice none 0 0], .slice none 0 0, .int .i64 0, .int .i64 0] 8 (World.laidAll_os _ _ _)
      (World.shaped_of_ZipB (by kernel_rfl) (by kernel_rfl)) (by kernel_rfl) (by kernel_rfl) (by kernel_rfl)
      (by rw [MakeChecks.laidMetH_plain _ _ _ (by kernel_rfl)]; exact laidMet_laidAll _ (by kernel_rfl) (by kernel_rfl)))
    (by kernel_rfl) Tryd.underlying4 rfl (fun ds hd => ?_) (by kernel_rfl) (fun _ _ hh h => h.of_heap hh) (fun _ h _ => gx_of h (by kernel_rfl)) law_routesFollows
  have hd : ds.length = 5 := hd
  match ds, hd with
  | [d1, d2, d3, d4, d5], _ => exact ⟨rfl, rfl, rfl⟩
theorem routesFollows_holds : Rows.RoutesFollowsSaid :=
  OpenClaim.holds_of_wide 6 Tryd.f6 rfl rfl rfl rfl rfl rfl rfl ⟨rfl, rfl, rfl, rfl, rfl⟩ rfl rfl rfl rfl rfl (by kernel_rfl) Tryd.func6 (by kernel_rfl)
    (of_decide_eq_true (by kernel_rfl)) (by unfold Func.isWrapper; first | (rw [if_pos (by decide +kernel)]; kernel_rfl) | (rw [if_neg (by decide +kernel)]; exact ⟨rfl, rfl⟩))
    (fun os started H enc _ => lifted_routesFollows os started H enc)
theorem routesFollows_card : Rows.RoutesFollowsCardSaid :=
  Claim7.holds_tied_plain_at .later [] Rows.routesFollowsCard.laidKinds true Rows.routesFollowsCard.stood.harness true
    routesFollows_holds (fun _ h => by cases h) (by kernel_rfl) (fun _ h => by cases h) routesFollows_row_tie rfl ⟨rfl, rfl⟩ (by kernel_rfl) rfl
    (fun f fn hf hfn => by
      obtain rfl : f = 6 := Option.some.inj ((show Tryd.prog.funcNamed Rows.routesFollowsRow.func = some 6 by kernel_rfl).symm.trans hf) |>.symm
      obtain rfl : fn = Tryd.f6 := (Option.some.inj (Tryd.func6.symm.trans hfn)).symm
      exact ⟨by kernel_rfl, fun j t ht => card_paramsRoutesFollows Tryd.f6 (by kernel_rfl) j t ht⟩)
    (by kernel_rfl)
end Go.Proofs.YtcdepkflghcjpaaDoor
