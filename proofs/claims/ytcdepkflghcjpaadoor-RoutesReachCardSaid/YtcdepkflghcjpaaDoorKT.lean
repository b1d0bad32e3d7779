/- For every plan and state of the cables the table of the order of the same cables reaches every node with a level from every other one, over at most as many cables as the sum of their levels. Conditions: none. -/
import Derived.Test.YtcdepkflghcjpaaDoorMI
import Derived.Test.YtcdepkflghcjpaaDoorTie
import Derived.Test.YtcdepkflghcjpaaDoorCards
import Derived.SevenTiedAt
import Derived.Stop.Joined
namespace Go.Proofs.YtcdepkflghcjpaaDoor
set_option linter.unusedSimpArgs false
set_option linter.unusedVariables false
open Go.ChangeShapes Go.WideShapes Go.ChangeAt Go.RowKit

theorem card_paramsRoutesReach (fn : Func) (h : fn.params.toList.all (fun t => !Tryd.prog.wantsStandIn t) = true) (j : Nat) (t : TypeId) (ht : fn.params[j]? = some t) : Tryd.prog.wantsStandIn t = false := by
  have := List.all_eq_true.1 h t (by rw [← Array.getElem?_toList] at ht; exact List.mem_of_getElem? ht)
  simpa using this
theorem law_routesReach (lvs : List LV) (h : fitAll Tryd.prog Tryd.f8.params.toList lvs) : Ev Tryd.prog 8 lvs (.sc (.bool true)) := by
  rw [Tryd.params8] at h
  obtain ⟨a0, l0, rfl, g0, h⟩ := all1 h
  obtain ⟨a1, l1, rfl, g1, h⟩ := all1 h
  obtain ⟨a2, l2, rfl, g2, h⟩ := all1 h
  obtain rfl := all0 h
  obtain ⟨p, ip, hp⟩ := arg_plan g0
  obtain ⟨up, iup, nup⟩ := arg_bools g1
  obtain ⟨ri, rfl, hri⟩ := arg_u8 g2
  exact ev_im (bs := [plV p, boolsV up, .sc (.int .u8 ri)]) ⟨ip, iup, Im.refl _, trivial⟩ (ev_lawReach p hp up ri hri)
set_option maxRecDepth 100000 in
theorem lifted_routesReach (os : Os) (started : os.Started) (H : Type) (enc : TypeId × Value → H) :
    ReturnsInHanded {} Tryd.checked os 8 .any (fun w args => (Rows.routesReachSpec.pre enc Tryd.prog Tryd.f8 [] false w args ∧ laidMetH Tryd.prog Rows.routesReachRow.laid w) ∧ sizedMet enc Tryd.prog Tryd.f8 (OpenSpec.ofChange Rows.routesReachSpec) false w args) (Rows.routesReachSpec.post enc Tryd.prog Tryd.f8 false true false false) := by
  refine law_liftedL (C := Tryd.checked) (tb := 4) Rows.routesReachRow.laid Tryd.own' started Tryd.laidOut' (by kernel_rfl) Tryd.func8
    (ChangeSpec.witness_shaped (enc := enc) (C := Tryd.checked) (os := os) (X := fun w _ => laidMetH Tryd.prog Rows.routesReachRow.laid w) false (World.laidAll Tryd.prog os Rows.routesReachRow.laid) #[.agg #[.slice none 0 0, .slice none 0 0], .slice none 0 0, .int .u8 0] 8 (World.laidAll_os _ _ _)
      (World.shaped_of_ZipB (by kernel_rfl) (by kernel_rfl)) (by kernel_rfl) (by kernel_rfl) (by kernel_rfl)
      (by rw [MakeChecks.laidMetH_plain _ _ _ (by kernel_rfl)]; exact laidMet_laidAll _ (by kernel_rfl) (by kernel_rfl)))
    (by kernel_rfl) Tryd.underlying4 rfl (fun ds hd => ?_) (by kernel_rfl) (fun _ _ hh h => h.of_heap hh) (fun _ h _ => gx_of h (by kernel_rfl)) law_routesReach
  have hd : ds.length = 3 := hd
  match ds, hd with
  | [d1, d2, d3], _ => exact ⟨rfl, rfl, rfl⟩
theorem routesReach_holds : Rows.RoutesReachSaid :=
  OpenClaim.holds_of_wide 8 Tryd.f8 rfl rfl rfl rfl rfl rfl rfl ⟨rfl, rfl, rfl, rfl, rfl⟩ rfl rfl rfl rfl rfl (by kernel_rfl) Tryd.func8 (by kernel_rfl)
    (of_decide_eq_true (by kernel_rfl)) (by unfold Func.isWrapper; first | (rw [if_pos (by decide +kernel)]; kernel_rfl) | (rw [if_neg (by decide +kernel)]; exact ⟨rfl, rfl⟩))
    (fun os started H enc _ => lifted_routesReach os started H enc)
theorem routesReach_card : Rows.RoutesReachCardSaid :=
  Claim7.holds_tied_plain_at .later [] Rows.routesReachCard.laidKinds true Rows.routesReachCard.stood.harness true
    routesReach_holds (fun _ h => by cases h) (by kernel_rfl) (fun _ h => by cases h) routesReach_row_tie rfl ⟨rfl, rfl⟩ (by kernel_rfl) rfl
    (fun f fn hf hfn => by
      obtain rfl : f = 8 := Option.some.inj ((show Tryd.prog.funcNamed Rows.routesReachRow.func = some 8 by kernel_rfl).symm.trans hf) |>.symm
      obtain rfl : fn = Tryd.f8 := (Option.some.inj (Tryd.func8.symm.trans hfn)).symm
      exact ⟨by kernel_rfl, fun j t ht => card_paramsRoutesReach Tryd.f8 (by kernel_rfl) j t ht⟩)
    (by kernel_rfl)
end Go.Proofs.YtcdepkflghcjpaaDoor
