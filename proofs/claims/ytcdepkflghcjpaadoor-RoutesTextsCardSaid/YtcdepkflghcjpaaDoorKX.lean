/- For every table Format returns the specified text, or the error, and Parse returns the table again. Conditions: none. -/
import Derived.Test.YtcdepkflghcjpaaDoorMI
import Derived.Test.YtcdepkflghcjpaaDoorTie
import Derived.Test.YtcdepkflghcjpaaDoorCards
import Derived.SevenTiedAt
import Derived.Stop.Joined
namespace Go.Proofs.YtcdepkflghcjpaaDoor
set_option linter.unusedSimpArgs false
set_option linter.unusedVariables false
open Go.ChangeShapes Go.WideShapes Go.ChangeAt Go.RowKit

theorem card_paramsRoutesTexts (fn : Func) (h : fn.params.toList.all (fun t => !Tryd.prog.wantsStandIn t) = true) (j : Nat) (t : TypeId) (ht : fn.params[j]? = some t) : Tryd.prog.wantsStandIn t = false := by
  have := List.all_eq_true.1 h t (by rw [← Array.getElem?_toList] at ht; exact List.mem_of_getElem? ht)
  simpa using this
theorem law_routesTexts (lvs : List LV) (h : fitAll Tryd.prog Tryd.f9.params.toList lvs) : Ev Tryd.prog 9 lvs (.sc (.bool true)) := by
  rw [Tryd.params9] at h
  obtain ⟨a0, l0, rfl, g0, h⟩ := all1 h
  obtain rfl := all0 h
  obtain ⟨q, iq, hq, nq⟩ := arg_lists g0
  exact ev_im (bs := [llV q]) ⟨iq, trivial⟩ (ev_lawTexts q)
set_option maxRecDepth 100000 in
theorem lifted_routesTexts (os : Os) (started : os.Started) (H : Type) (enc : TypeId × Value → H) :
    ReturnsInHanded {} Tryd.checked os 9 .any (fun w args => (Rows.routesTextsSpec.pre enc Tryd.prog Tryd.f9 [] false w args ∧ laidMetH Tryd.prog Rows.routesTextsRow.laid w) ∧ sizedMet enc Tryd.prog Tryd.f9 (OpenSpec.ofChange Rows.routesTextsSpec) false w args) (Rows.routesTextsSpec.post enc Tryd.prog Tryd.f9 false true false false) := by
  refine law_liftedL (C := Tryd.checked) (tb := 4) Rows.routesTextsRow.laid Tryd.own' started Tryd.laidOut' (by kernel_rfl) Tryd.func9
    (ChangeSpec.witness_shaped (enc := enc) (C := Tryd.checked) (os := os) (X := fun w _ => laidMetH Tryd.prog Rows.routesTextsRow.laid w) false (World.laidAll Tryd.prog os Rows.routesTextsRow.laid) #[.slice none 0 0] 8 (World.laidAll_os _ _ _)
      (World.shaped_of_ZipB (by kernel_rfl) (by kernel_rfl)) (by kernel_rfl) (by kernel_rfl) (by kernel_rfl)
      (by rw [MakeChecks.laidMetH_plain _ _ _ (by kernel_rfl)]; exact laidMet_laidAll _ (by kernel_rfl) (by kernel_rfl)))
    (by kernel_rfl) Tryd.underlying4 rfl (fun ds hd => ?_) (by kernel_rfl) (fun _ _ hh h => h.of_heap hh) (fun _ h s => gx_of h (by kernel_rfl) s) law_routesTexts
  have hd : ds.length = 1 := hd
  match ds, hd with
  | [d1], _ => exact ⟨rfl, rfl, rfl⟩
theorem routesTexts_holds : Rows.RoutesTextsSaid :=
  OpenClaim.holds_of_wide 9 Tryd.f9 rfl rfl rfl rfl rfl rfl rfl ⟨rfl, rfl, rfl, rfl, rfl⟩ rfl rfl rfl rfl rfl (by kernel_rfl) Tryd.func9 (by kernel_rfl)
    (of_decide_eq_true (by kernel_rfl)) (by unfold Func.isWrapper; first | (rw [if_pos (by decide +kernel)]; kernel_rfl) | (rw [if_neg (by decide +kernel)]; exact ⟨rfl, rfl⟩))
    (fun os started H enc _ => lifted_routesTexts os started H enc)
theorem routesTexts_card : Rows.RoutesTextsCardSaid :=
  Claim7.holds_tied_plain_at .later [] Rows.routesTextsCard.laidKinds true Rows.routesTextsCard.stood.harness true
    routesTexts_holds (fun _ h => by cases h) (by kernel_rfl) (fun _ h => by cases h) routesTexts_row_tie rfl ⟨rfl, rfl⟩ (by kernel_rfl) rfl
    (fun f fn hf hfn => by
      obtain rfl : f = 9 := Option.some.inj ((show Tryd.prog.funcNamed Rows.routesTextsRow.func = some 9 by kernel_rfl).symm.trans hf) |>.symm
      obtain rfl : fn = Tryd.f9 := (Option.some.inj (Tryd.func9.symm.trans hfn)).symm
      exact ⟨by kernel_rfl, fun j t ht => card_paramsRoutesTexts Tryd.f9 (by kernel_rfl) j t ht⟩)
    (by kernel_rfl)
end Go.Proofs.YtcdepkflghcjpaaDoor
