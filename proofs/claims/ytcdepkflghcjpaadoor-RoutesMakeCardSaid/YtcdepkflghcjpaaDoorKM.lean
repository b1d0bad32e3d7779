/- For every plan, order and state of the cables Make returns the specified table, or the error. Conditions: none. -/
import Derived.Test.YtcdepkflghcjpaaDoorMI
import Derived.Test.YtcdepkflghcjpaaDoorTie
import Derived.Test.YtcdepkflghcjpaaDoorCards
import Derived.SevenTiedAt
import Derived.Stop.Joined
namespace Go.Proofs.YtcdepkflghcjpaaDoor
set_option linter.unusedSimpArgs false
set_option linter.unusedVariables false
open Go.ChangeShapes Go.WideShapes Go.ChangeAt Go.RowKit

theorem card_paramsRoutesMake (fn : Func) (h : fn.params.toList.all (fun t => !Tryd.prog.wantsStandIn t) = true) (j : Nat) (t : TypeId) (ht : fn.params[j]? = some t) : Tryd.prog.wantsStandIn t = false := by
  have := List.all_eq_true.1 h t (by rw [← Array.getElem?_toList] at ht; exact List.mem_of_getElem? ht)
  simpa using this
theorem law_routesMake (lvs : List LV) (h : fitAll Tryd.prog Tryd.f3.params.toList lvs) : Ev Tryd.prog 3 lvs (.sc (.bool true)) := by
  rw [Tryd.params3] at h
  obtain ⟨a0, l0, rfl, g0, h⟩ := all1 h
  obtain ⟨a1, l1, rfl, g1, h⟩ := all1 h
  obtain ⟨a2, l2, rfl, g2, h⟩ := all1 h
  obtain rfl := all0 h
  obtain ⟨p, ip, hp⟩ := arg_plan g0
  obtain ⟨l, il, hl, nl⟩ := arg_order g1
  obtain ⟨up, iup, nup⟩ := arg_bools g2
  exact ev_im (bs := [plV p, .agg [intsV l], boolsV up]) ⟨ip, il, iup, trivial⟩ (ev_lawMake p hp l up)
set_option maxRecDepth 100000 in
theorem lifted_routesMake (os : Os) (started : os.Started) (H : Type) (enc : TypeId × Value → H) :
    ReturnsInHanded {} Tryd.checked os 3 .any (fun w args => (Rows.routesMakeSpec.pre enc Tryd.prog Tryd.f3 [] false w args ∧ laidMetH Tryd.prog Rows.routesMakeRow.laid w) ∧ sizedMet enc Tryd.prog Tryd.f3 (OpenSpec.ofChange Rows.routesMakeSpec) false w args) (Rows.routesMakeSpec.post enc Tryd.prog Tryd.f3 false true false false) := by
  refine law_liftedL (C := Tryd.checked) (tb := 4) Rows.routesMakeRow.laid Tryd.own' started Tryd.laidOut' (by kernel_rfl) Tryd.func3
    (ChangeSpec.witness_shaped (enc := enc) (C := Tryd.checked) (os := os) (X := fun w _ => laidMetH Tryd.prog Rows.routesMakeRow.laid w) false (World.laidAll Tryd.prog os Rows.routesMakeRow.laid) #[.agg #[.slice none 0 0, .slice none 0 0], .agg #[.slice none 0 0], .slice none 0 0] 8 (World.laidAll_os _ _ _)
      (World.shaped_of_ZipB (by kernel_rfl) (by kernel_rfl)) (by kernel_rfl) (by kernel_rfl) (by kernel_rfl)
      (by rw [MakeChecks.laidMetH_plain _ _ _ (by kernel_rfl)]; exact laidMet_laidAll _ (by kernel_rfl) (by kernel_rfl)))
    (by kernel_rfl) Tryd.underlying4 rfl (fun ds hd => ?_) (by kernel_rfl) (fun _ _ hh h => h.of_heap hh) (fun _ h _ => gx_of h (by kernel_rfl)) law_routesMake
  have hd : ds.length = 3 := hd
  match ds, hd with
  | [d1, d2, d3], _ => exact ⟨rfl, rfl, rfl⟩
theorem routesMake_holds : Rows.RoutesMakeSaid :=
  OpenClaim.holds_of_wide 3 Tryd.f3 rfl rfl rfl rfl rfl rfl rfl ⟨rfl, rfl, rfl, rfl, rfl⟩ rfl rfl rfl rfl rfl (by kernel_rfl) Tryd.func3 (by kernel_rfl)
    (of_decide_eq_true (by kernel_rfl)) (by unfold Func.isWrapper; first | (rw [if_pos (by decide +kernel)]; kernel_rfl) | (rw [if_neg (by decide +kernel)]; exact ⟨rfl, rfl⟩))
    (fun os started H enc _ => lifted_routesMake os started H enc)
theorem routesMake_card : Rows.RoutesMakeCardSaid :=
  Claim7.holds_tied_plain_at .later [] Rows.routesMakeCard.laidKinds true Rows.routesMakeCard.stood.harness true
    routesMake_holds (fun _ h => by cases h) (by kernel_rfl) (fun _ h => by cases h) routesMake_row_tie rfl ⟨rfl, rfl⟩ (by kernel_rfl) rfl
    (fun f fn hf hfn => by
      obtain rfl : f = 3 := Option.some.inj ((show Tryd.prog.funcNamed Rows.routesMakeRow.func = some 3 by kernel_rfl).symm.trans hf) |>.symm
      obtain rfl : fn = Tryd.f3 := (Option.some.inj (Tryd.func3.symm.trans hfn)).symm
      exact ⟨by kernel_rfl, fun j t ht => card_paramsRoutesMake Tryd.f3 (by kernel_rfl) j t ht⟩)
    (by kernel_rfl)
end Go.Proofs.YtcdepkflghcjpaaDoor
