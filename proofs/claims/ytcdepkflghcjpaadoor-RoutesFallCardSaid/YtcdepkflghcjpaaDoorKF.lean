/- Chapter 19: a frame in phase 1 never rises; For every plan, order and state of the cables a frame in phase 1 never rises. Conditions: none. -/
import Derived.Test.YtcdepkflghcjpaaDoorMH
import Derived.Test.YtcdepkflghcjpaaDoorTie
import Derived.Test.YtcdepkflghcjpaaDoorCards
import Derived.SevenTiedAt
import Derived.Stop.Joined
namespace Go.Proofs.YtcdepkflghcjpaaDoor
set_option linter.unusedSimpArgs false
set_option linter.unusedVariables false
open Go.RowKit
set_option maxRecDepth 20000

theorem fit_of {p : Pl} {l : List Int} {up : List Bool} (h : fitB19 p l up = true) : validE p = 0 ∧ ordB p l = true ∧ up.length = p.cs.length := by
  unfold fitB19 at h
  simp only [Bool.and_eq_true, decide_eq_true_eq] at h
  exact ⟨h.1, by rw [← fits_ord h.1]; exact h.2.1, h.2.2⟩
/-- The table of an order is valid. -/
theorem make_valid {p : Pl} {l : List Int} {up : List Bool} (hv : validE p = 0) (hll : l.length = p.ns.length) : validT p (makeT p l up) = true := by
  have hml := makeT_len p l up
  unfold validT
  rw [decide_eq_true hv, decide_eq_true hml, hml, Bool.true_and, Bool.true_and]
  refine rng_yes19 fun u hu => ?_
  rw [makeT_get p l up hu]
  have hr : ∀ b, rowB19 p u (rowE p l up u b p.ns.length) = true := by
    intro b
    unfold rowB19
    rw [rowE_len, decide_eq_true rfl, Bool.true_and]
    refine rng_yes19 fun k hk => ?_
    rw [rowE_get p l up u b hk]
    exact ent_perm hv hll hk b
  show (rowB19 p u (rowE p l up u false p.ns.length) && rowB19 p u (rowE p l up u true p.ns.length)) = true
  rw [hr, hr]; rfl
theorem ev_lawFall (p : Pl) (hp : PlOk p) (l : List Int) (up : List Bool) : Ev Tryd.prog 4 [plV p, .agg [intsV l], boolsV up] (.sc (.bool true)) := by
  have h0 := ev_awake19
  have h1 := ev_small19 p l up
  have h2 := ev_fits19 p l up
  have h3 := ev_make p hp l up
  have h4 := ev_valid19 p hp (makeT p l up)
  have h5 := fun c x => ev_upward p hp l c x
  unfold plV boolsV intsV tabV at *
  refine ev_fn Tryd.func4 comp4 (show 3 ≤ Tryd.f4.ntmps by decide) ?_; unfold cf4 rf4; simp only [↓EVP0, EVQ0, EVQ1, EVQ2, EVQ3, EVQ4, EVA, EVK, EVF,EVFT, ↓reduceIte, Nat.reduceEqDiff, Nat.reduceAdd, Nat.reduceSub, Nat.reduceMul, Nat.reduceLT, Nat.reduceLeDiff, reduceCtorEq, Int.reduceToNat, Int.reduceLT, Int.reduceLE, Int.reduceAdd, Int.reduceSub, Int.reduceMul, Int.reduceNeg, Int.reduceEq, Nat.reduceMod, forall_eq_or_imp, forall_eq, forall_const, cond_true, cond_false, decide_true, decide_false, true_imp_iff, implies_true, Int.cast_ofNat_Int, forall_eq']
  refine callK_ro (h0) ?_ ?_
  · simp only [↓EVP0, EVQ0, EVQ1, EVQ2, EVQ3, EVQ4, EVA, EVK, EVF,EVFT, ↓reduceIte, Nat.reduceEqDiff, Nat.reduceAdd, Nat.reduceSub, Nat.reduceMul, Nat.reduceLT, Nat.reduceLeDiff, reduceCtorEq, Int.reduceToNat, Int.reduceLT, Int.reduceLE, Int.reduceAdd, Int.reduceSub, Int.reduceMul, Int.reduceNeg, Int.reduceEq, Nat.reduceMod, forall_eq_or_imp, forall_eq, forall_const, cond_true, cond_false, decide_true, decide_false, true_imp_iff, implies_true, Int.cast_ofNat_Int, forall_eq']
  simp only [↓EVP0, EVQ0, EVQ1, EVQ2, EVQ3, EVQ4, EVA, EVK, EVF,EVFT, ↓reduceIte, Nat.reduceEqDiff, Nat.reduceAdd, Nat.reduceSub, Nat.reduceMul, Nat.reduceLT, Nat.reduceLeDiff, reduceCtorEq, Int.reduceToNat, Int.reduceLT, Int.reduceLE, Int.reduceAdd, Int.reduceSub, Int.reduceMul, Int.reduceNeg, Int.reduceEq, Nat.reduceMod, forall_eq_or_imp, forall_eq, forall_const, cond_true, cond_false, decide_true, decide_false, true_imp_iff, implies_true, Int.cast_ofNat_Int, forall_eq']
  refine callK_ro (h1) ?_ ?_
  · simp only [↓EVP0, EVQ0, EVQ1, EVQ2, EVQ3, EVQ4, EVA, EVK, EVF,EVFT, ↓reduceIte, Nat.reduceEqDiff, Nat.reduceAdd, Nat.reduceSub, Nat.reduceMul, Nat.reduceLT, Nat.reduceLeDiff, reduceCtorEq, Int.reduceToNat, Int.reduceLT, Int.reduceLE, Int.reduceAdd, Int.reduceSub, Int.reduceMul, Int.reduceNeg, Int.reduceEq, Nat.reduceMod, forall_eq_or_imp, forall_eq, forall_const, cond_true, cond_false, decide_true, decide_false, true_imp_iff, implies_true, Int.cast_ofNat_Int, forall_eq']
  simp only [↓EVP0, EVQ0, EVQ1, EVQ2, EVQ3, EVQ4, EVA, EVK, EVF,EVFT, ↓reduceIte, Nat.reduceEqDiff, Nat.reduceAdd, Nat.reduceSub, Nat.reduceMul, Nat.reduceLT, Nat.reduceLeDiff, reduceCtorEq, Int.reduceToNat, Int.reduceLT, Int.reduceLE, Int.reduceAdd, Int.reduceSub, Int.reduceMul, Int.reduceNeg, Int.reduceEq, Nat.reduceMod, forall_eq_or_imp, forall_eq, forall_const, cond_true, cond_false, decide_true, decide_false, true_imp_iff, implies_true, Int.cast_ofNat_Int, forall_eq']
  refine lops_ge_imp ?_
  simp only [↓EVP0, EVQ0, EVQ1, EVQ2, EVQ3, EVQ4, EVA, EVK, EVF,EVFT, ↓reduceIte, Nat.reduceEqDiff, Nat.reduceAdd, Nat.reduceSub, Nat.reduceMul, Nat.reduceLT, Nat.reduceLeDiff, reduceCtorEq, Int.reduceToNat, Int.reduceLT, Int.reduceLE, Int.reduceAdd, Int.reduceSub, Int.reduceMul, Int.reduceNeg, Int.reduceEq, Nat.reduceMod, forall_eq_or_imp, forall_eq, forall_const, cond_true, cond_false, decide_true, decide_false, true_imp_iff, implies_true, Int.cast_ofNat_Int, forall_eq']
  have hs : decide ((if smallB p l up = true then (1 : Int) else 0) = 0) = !smallB p l up := by cases smallB p l up <;> rfl
  rw [hs]
  refine gCallK_ro _ (fun _ => h2) (fun _ => ?_) ?_
  · simp only [↓EVP0, EVQ0, EVQ1, EVQ2, EVQ3, EVQ4, EVA, EVK, EVF,EVFT, ↓reduceIte, Nat.reduceEqDiff, Nat.reduceAdd, Nat.reduceSub, Nat.reduceMul, Nat.reduceLT, Nat.reduceLeDiff, reduceCtorEq, Int.reduceToNat, Int.reduceLT, Int.reduceLE, Int.reduceAdd, Int.reduceSub, Int.reduceMul, Int.reduceNeg, Int.reduceEq, Nat.reduceMod, forall_eq_or_imp, forall_eq, forall_const, cond_true, cond_false, decide_true, decide_false, true_imp_iff, implies_true, Int.cast_ofNat_Int, forall_eq']
  simp only [↓EVP0, EVQ0, EVQ1, EVQ2, EVQ3, EVQ4, EVA, EVK, EVF,EVFT, ↓reduceIte, Nat.reduceEqDiff, Nat.reduceAdd, Nat.reduceSub, Nat.reduceMul, Nat.reduceLT, Nat.reduceLeDiff, reduceCtorEq, Int.reduceToNat, Int.reduceLT, Int.reduceLE, Int.reduceAdd, Int.reduceSub, Int.reduceMul, Int.reduceNeg, Int.reduceEq, Nat.reduceMod, forall_eq_or_imp, forall_eq, forall_const, cond_true, cond_false, decide_true, decide_false, true_imp_iff, implies_true, Int.cast_ofNat_Int, forall_eq']
  refine ⟨fun _ => trivial, fun hg => ?_⟩
  have c1 : smallB p l up = true := by
    cases h : smallB p l up
    · rw [h] at hg; simp at hg
    · rfl
  have c2 : fitB19 p l up = true := by
    cases h : fitB19 p l up
    · rw [c1, h] at hg; simp at hg
    · rfl
  have h8 : p.ns.length ≤ 8 := by
    unfold smallB at c1
    simp only [Bool.and_eq_true, decide_eq_true_eq] at c1
    exact c1.1
  obtain ⟨hv, ho, hup⟩ := fit_of c2
  have hO := ord_of ho
  have hll := hO.len
  have hml := makeT_len p l up
  have h3 := h3 h8
  rw [show makeE p l up = (makeT p l up, 0) by unfold makeE; rw [if_pos ⟨ho, hup⟩]] at h3
  refine callK_ro (h3) ?_ ?_
  · simp only [↓EVP0, EVQ0, EVQ1, EVQ2, EVQ3, EVQ4, EVA, EVK, EVF,EVFT, ↓reduceIte, Nat.reduceEqDiff, Nat.reduceAdd, Nat.reduceSub, Nat.reduceMul, Nat.reduceLT, Nat.reduceLeDiff, reduceCtorEq, Int.reduceToNat, Int.reduceLT, Int.reduceLE, Int.reduceAdd, Int.reduceSub, Int.reduceMul, Int.reduceNeg, Int.reduceEq, Nat.reduceMod, forall_eq_or_imp, forall_eq, forall_const, cond_true, cond_false, decide_true, decide_false, true_imp_iff, implies_true, Int.cast_ofNat_Int, forall_eq']
  simp only [↓EVP0, EVQ0, EVQ1, EVQ2, EVQ3, EVQ4, EVA, EVK, EVF,EVFT, ↓reduceIte, Nat.reduceEqDiff, Nat.reduceAdd, Nat.reduceSub, Nat.reduceMul, Nat.reduceLT, Nat.reduceLeDiff, reduceCtorEq, Int.reduceToNat, Int.reduceLT, Int.reduceLE, Int.reduceAdd, Int.reduceSub, Int.reduceMul, Int.reduceNeg, Int.reduceEq, Nat.reduceMod, forall_eq_or_imp, forall_eq, forall_const, cond_true, cond_false, decide_true, decide_false, true_imp_iff, implies_true, Int.cast_ofNat_Int, forall_eq']
  rw [make_valid hv hll] at h4
  (refine lops_ge_imp ?_; simp only [↓EVP0, EVQ0, EVQ1, EVQ2, EVQ3, EVQ4, EVA, EVK, EVF,EVFT, ↓reduceIte, Nat.reduceEqDiff, Nat.reduceAdd, Nat.reduceSub, Nat.reduceMul, Nat.reduceLT, Nat.reduceLeDiff, reduceCtorEq, Int.reduceToNat, Int.reduceLT, Int.reduceLE, Int.reduceAdd, Int.reduceSub, Int.reduceMul, Int.reduceNeg, Int.reduceEq, Nat.reduceMod, forall_eq_or_imp, forall_eq, forall_const, cond_true, cond_false, decide_true, decide_false, true_imp_iff, implies_true, Int.cast_ofNat_Int, forall_eq'])
  refine gCallK_ro _ (fun _ => h4) (fun _ => ?_) ?_
  · simp only [↓EVP0, EVQ0, EVQ1, EVQ2, EVQ3, EVQ4, EVA, EVK, EVF,EVFT, ↓reduceIte, Nat.reduceEqDiff, Nat.reduceAdd, Nat.reduceSub, Nat.reduceMul, Nat.reduceLT, Nat.reduceLeDiff, reduceCtorEq, Int.reduceToNat, Int.reduceLT, Int.reduceLE, Int.reduceAdd, Int.reduceSub, Int.reduceMul, Int.reduceNeg, Int.reduceEq, Nat.reduceMod, forall_eq_or_imp, forall_eq, forall_const, cond_true, cond_false, decide_true, decide_false, true_imp_iff, implies_true, Int.cast_ofNat_Int, forall_eq']
  simp only [↓EVP0, EVQ0, EVQ1, EVQ2, EVQ3, EVQ4, EVA, EVK, EVF,EVFT, ↓reduceIte, Nat.reduceEqDiff, Nat.reduceAdd, Nat.reduceSub, Nat.reduceMul, Nat.reduceLT, Nat.reduceLeDiff, reduceCtorEq, Int.reduceToNat, Int.reduceLT, Int.reduceLE, Int.reduceAdd, Int.reduceSub, Int.reduceMul, Int.reduceNeg, Int.reduceEq, Nat.reduceMod, forall_eq_or_imp, forall_eq, forall_const, cond_true, cond_false, decide_true, decide_false, true_imp_iff, implies_true, Int.cast_ofNat_Int, forall_eq']
  have hrow := fun u (hu : u < p.ns.length) => makeT_get p l up hu
  have hlaw := fun u w c (hu : u < p.ns.length) (ht : w < p.ns.length) (hc : entE p l up u true w = c) (h0 : 0 ≤ c) => fall_law hv ho hll hu ht hc h0
  have hen := fun u k (hk : k < p.ns.length) => rowE_get p l up u true hk
  have hrl := fun u => rowE_len p l up u true p.ns.length
  have h16 := (valid_of hv).n16
  rw [hml]
  intro _
  refine lwp_for (α := Unit) p.ns.length (fun _ _ => True) (fun u _ => [(2, .rsl 1 up.length (boolsF up)), (3, .ptr 0 0 0 0 0), (4, .ptr 1 0 0 0 0), (7, .ptr 2 0 0 0 0), (47, .sc (.int .i64 p.ns.length)), (48, .sc (.int .i64 u))])
    (fun _ _ => [(0, .box [.rsl 3 p.ns.length (ndsF p.ns), .rsl 6 p.cs.length (cbsF p.cs)]), (0, .box [.rsl 1 l.length (intsF l)]), (0, .box [.rsl 2 p.ns.length (tabF (makeT p l up))])]) () trivial ?_ (fun _ _ => Nat.zero_le _) ?_
  · simp only [↓EVP0, EVQ0, EVQ1, EVQ2, EVQ3, EVQ4, EVA, EVK, EVF,EVFT, ↓reduceIte, Nat.reduceEqDiff, Nat.reduceAdd, Nat.reduceSub, Nat.reduceMul, Nat.reduceLT, Nat.reduceLeDiff, reduceCtorEq, Int.reduceToNat, Int.reduceLT, Int.reduceLE, Int.reduceAdd, Int.reduceSub, Int.reduceMul, Int.reduceNeg, Int.reduceEq, Nat.reduceMod, forall_eq_or_imp, forall_eq, forall_const, cond_true, cond_false, decide_true, decide_false, true_imp_iff, implies_true, Int.cast_ofNat_Int, forall_eq']
  intro u _ hu _
  unfold lb4_1
  simp only [↓EVP0, EVQ0, EVQ1, EVQ2, EVQ3, EVQ4, EVA, EVK, EVF,EVFT, ↓reduceIte, Nat.reduceEqDiff, Nat.reduceAdd, Nat.reduceSub, Nat.reduceMul, Nat.reduceLT, Nat.reduceLeDiff, reduceCtorEq, Int.reduceToNat, Int.reduceLT, Int.reduceLE, Int.reduceAdd, Int.reduceSub, Int.reduceMul, Int.reduceNeg, Int.reduceEq, Nat.reduceMod, forall_eq_or_imp, forall_eq, forall_const, cond_true, cond_false, decide_true, decide_false, true_imp_iff, implies_true, Int.cast_ofNat_Int, forall_eq']
  refine ⟨fun hg2 => ?_, fun hg2 => ?_⟩
  rotate_left
  · trivial
  have hu2 : u < p.ns.length := by have := of_decide_eq_true hg2; omega
  rw [hrow u hu2]
  rw [hrl u]
  refine ⟨⟨by omega, by omega⟩, fun _ => ?_⟩
  refine lwp_for (α := Unit) p.ns.length (fun _ _ => True) (fun k _ => [(2, .rsl 1 up.length (boolsF up)), (3, .ptr 0 0 0 0 0), (4, .ptr 1 0 0 0 0), (7, .ptr 2 0 0 0 0), (9, .sc (.int .i64 u)), (47, .sc (.int .i64 p.ns.length)), (48, .sc (.int .i64 u)), (56, .rsl 1 p.ns.length (intsF (rowE p l up u true p.ns.length))), (57, .sc (.int .i64 p.ns.length)), (58, .sc (.int .i64 k))])
    (fun _ _ => [(0, .box [.rsl 3 p.ns.length (ndsF p.ns), .rsl 6 p.cs.length (cbsF p.cs)]), (0, .box [.rsl 1 l.length (intsF l)]), (0, .box [.rsl 2 p.ns.length (tabF (makeT p l up))])]) () trivial ?_ (fun _ _ => Nat.zero_le _) ?_
  · simp only [↓EVP0, EVQ0, EVQ1, EVQ2, EVQ3, EVQ4, EVA, EVK, EVF,EVFT, ↓reduceIte, Nat.reduceEqDiff, Nat.reduceAdd, Nat.reduceSub, Nat.reduceMul, Nat.reduceLT, Nat.reduceLeDiff, reduceCtorEq, Int.reduceToNat, Int.reduceLT, Int.reduceLE, Int.reduceAdd, Int.reduceSub, Int.reduceMul, Int.reduceNeg, Int.reduceEq, Nat.reduceMod, forall_eq_or_imp, forall_eq, forall_const, cond_true, cond_false, decide_true, decide_false, true_imp_iff, implies_true, Int.cast_ofNat_Int, forall_eq']
  intro k _ hk _
  unfold lb4_0
  simp only [↓EVP0, EVQ0, EVQ1, EVQ2, EVQ3, EVQ4, EVA, EVK, EVF,EVFT, ↓reduceIte, Nat.reduceEqDiff, Nat.reduceAdd, Nat.reduceSub, Nat.reduceMul, Nat.reduceLT, Nat.reduceLeDiff, reduceCtorEq, Int.reduceToNat, Int.reduceLT, Int.reduceLE, Int.reduceAdd, Int.reduceSub, Int.reduceMul, Int.reduceNeg, Int.reduceEq, Nat.reduceMod, forall_eq_or_imp, forall_eq, forall_const, cond_true, cond_false, decide_true, decide_false, true_imp_iff, implies_true, Int.cast_ofNat_Int, forall_eq']
  refine ⟨fun hg3 => ?_, fun hg3 => ?_⟩
  rotate_left
  · exact ⟨by unfold In64; omega, hu2, (), trivial⟩
  have hk2 : k < p.ns.length := by have := of_decide_eq_true hg3; omega
  rw [hen u k hk2]
  have hL := hlaw u k _ hu2 hk2 rfl
  generalize entE p l up u true k = c at *
  refine ⟨⟨by omega, by omega⟩, fun hg4 => ?_, fun hg4 => ?_⟩
  · exact ⟨by unfold In64; omega, hk2, (), trivial⟩
  obtain ⟨q1, q2, q3, v, q4, q5, q6⟩ := hL (by have := of_decide_eq_false hg4; omega)
  have h6 := h5 c u
  rw [q2] at h6
  refine callK_ro (h6) ?_ ?_
  · simp only [↓EVP0, EVQ0, EVQ1, EVQ2, EVQ3, EVQ4, EVA, EVK, EVF,EVFT, ↓reduceIte, Nat.reduceEqDiff, Nat.reduceAdd, Nat.reduceSub, Nat.reduceMul, Nat.reduceLT, Nat.reduceLeDiff, reduceCtorEq, Int.reduceToNat, Int.reduceLT, Int.reduceLE, Int.reduceAdd, Int.reduceSub, Int.reduceMul, Int.reduceNeg, Int.reduceEq, Nat.reduceMod, forall_eq_or_imp, forall_eq, forall_const, cond_true, cond_false, decide_true, decide_false, true_imp_iff, implies_true, Int.cast_ofNat_Int, forall_eq']
  simp only [↓EVP0, EVQ0, EVQ1, EVQ2, EVQ3, EVQ4, EVA, EVK, EVF,EVFT, ↓reduceIte, Nat.reduceEqDiff, Nat.reduceAdd, Nat.reduceSub, Nat.reduceMul, Nat.reduceLT, Nat.reduceLeDiff, reduceCtorEq, Int.reduceToNat, Int.reduceLT, Int.reduceLE, Int.reduceAdd, Int.reduceSub, Int.reduceMul, Int.reduceNeg, Int.reduceEq, Nat.reduceMod, forall_eq_or_imp, forall_eq, forall_const, cond_true, cond_false, decide_true, decide_false, true_imp_iff, implies_true, Int.cast_ofNat_Int, forall_eq']
  have hc0 : 0 ≤ c := by have := of_decide_eq_false hg4; omega
  have hcab := (valid_of hv).cab _ (cs_mem hc0 q1)
  unfold inN at hcab
  rw [q4, Int.toNat_natCast, hrow v q5, hrl v, hen v k hk2, q3]
  refine ⟨⟨hc0, q1⟩, ⟨hc0, q1⟩, by unfold In64; omega, by unfold In64; omega, ⟨hc0, by omega⟩, fun _ => ⟨by omega, by omega⟩, fun _ => ⟨by omega, by omega⟩, fun h => ?_, fun _ => ⟨by unfold In64; omega, hk2, (), trivial⟩⟩
  rw [decide_eq_false q6] at h
  simp at h
end Go.Proofs.YtcdepkflghcjpaaDoor
namespace Go.Proofs.YtcdepkflghcjpaaDoor
set_option linter.unusedSimpArgs false
set_option linter.unusedVariables false
open Go.ChangeShapes Go.WideShapes Go.ChangeAt Go.RowKit

theorem card_paramsRoutesFall (fn : Func) (h : fn.params.toList.all (fun t => !Tryd.prog.wantsStandIn t) = true) (j : Nat) (t : TypeId) (ht : fn.params[j]? = some t) : Tryd.prog.wantsStandIn t = false := by
  have := List.all_eq_true.1 h t (by rw [← Array.getElem?_toList] at ht; exact List.mem_of_getElem? ht)
  simpa using this
theorem law_routesFall (lvs : List LV) (h : fitAll Tryd.prog Tryd.f4.params.toList lvs) : Ev Tryd.prog 4 lvs (.sc (.bool true)) := by
  rw [Tryd.params4] at h
  obtain ⟨a0, l0, rfl, g0, h⟩ := all1 h
  obtain ⟨a1, l1, rfl, g1, h⟩ := all1 h
  obtain ⟨a2, l2, rfl, g2, h⟩ := all1 h
  obtain rfl := all0 h
  obtain ⟨p, ip, hp⟩ := arg_plan g0
  obtain ⟨l, il, hl, nl⟩ := arg_order g1
  obtain ⟨up, iup, nup⟩ := arg_bools g2
  exact ev_im (bs := [plV p, .agg [intsV l], boolsV up]) ⟨ip, il, iup, trivial⟩ (ev_lawFall p hp l up)
set_option maxRecDepth 100000 in
theorem lifted_routesFall (os : Os) (started : os.Started) (H : Type) (enc : TypeId × Value → H) :
    ReturnsInHanded {} Tryd.checked os 4 .any (fun w args => (Rows.routesFallSpec.pre enc Tryd.prog Tryd.f4 [] false w args ∧ laidMetH Tryd.prog Rows.routesFallRow.laid w) ∧ sizedMet enc Tryd.prog Tryd.f4 (OpenSpec.ofChange Rows.routesFallSpec) false w args) (Rows.routesFallSpec.post enc Tryd.prog Tryd.f4 false true false false) := by
  refine law_liftedL (C := Tryd.checked) (tb := 4) Rows.routesFallRow.laid Tryd.own' started Tryd.laidOut' (by kernel_rfl) Tryd.func4
    (ChangeSpec.witness_shaped (enc := enc) (C := Tryd.checked) (os := os) (X := fun w _ => laidMetH Tryd.prog Rows.routesFallRow.laid w) false (World.laidAll Tryd.prog os Rows.routesFallRow.laid) #[.agg #[.slice none 0 0, .slice none 0 0], .agg #[.slice none 0 0], .slice none 0 0] 8 (World.laidAll_os _ _ _)
      (World.shaped_of_ZipB (by kernel_rfl) (by kernel_rfl)) (by kernel_rfl) (by kernel_rfl) (by kernel_rfl)
      (by rw [MakeChecks.laidMetH_plain _ _ _ (by kernel_rfl)]; exact laidMet_laidAll _ (by kernel_rfl) (by kernel_rfl)))
    (by kernel_rfl) Tryd.underlying4 rfl (fun ds hd => ?_) (by kernel_rfl) (fun _ _ hh h => h.of_heap hh) (fun _ h _ => gx_of h (by kernel_rfl)) law_routesFall
  have hd : ds.length = 3 := hd
  match ds, hd with
  | [d1, d2, d3], _ => exact ⟨rfl, rfl, rfl⟩
theorem routesFall_holds : Rows.RoutesFallSaid :=
  OpenClaim.holds_of_wide 4 Tryd.f4 rfl rfl rfl rfl rfl rfl rfl ⟨rfl, rfl, rfl, rfl, rfl⟩ rfl rfl rfl rfl rfl (by kernel_rfl) Tryd.func4 (by kernel_rfl)
    (of_decide_eq_true (by kernel_rfl)) (by unfold Func.isWrapper; first | (rw [if_pos (by decide +kernel)]; kernel_rfl) | (rw [if_neg (by decide +kernel)]; exact ⟨rfl, rfl⟩))
    (fun os started H enc _ => lifted_routesFall os started H enc)
theorem routesFall_card : Rows.RoutesFallCardSaid :=
  Claim7.holds_tied_plain_at .later [] Rows.routesFallCard.laidKinds true Rows.routesFallCard.stood.harness true
    routesFall_holds (fun _ h => by cases h) (by kernel_rfl) (fun _ h => by cases h) routesFall_row_tie rfl ⟨rfl, rfl⟩ (by kernel_rfl) rfl
    (fun f fn hf hfn => by
      obtain rfl : f = 4 := Option.some.inj ((show Tryd.prog.funcNamed Rows.routesFallRow.func = some 4 by kernel_rfl).symm.trans hf) |>.symm
      obtain rfl : fn = Tryd.f4 := (Option.some.inj (Tryd.func4.symm.trans hfn)).symm
      exact ⟨by kernel_rfl, fun j t ht => card_paramsRoutesFall Tryd.f4 (by kernel_rfl) j t ht⟩)
    (by kernel_rfl)
end Go.Proofs.YtcdepkflghcjpaaDoor
