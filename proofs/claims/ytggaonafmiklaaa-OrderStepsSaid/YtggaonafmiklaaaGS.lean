/- Of answers as the reference does. Conditions: none. -/
import Derived.Test.YtggaonafmiklaaaGR
namespace Go.Proofs.Ytggaonafmiklaaa
set_option linter.unusedSimpArgs false
set_option linter.unusedVariables false
open Go.RowKit
set_option maxRecDepth 20000

theorem lvl_dist {n : Nat} {U : List Cb} {r x : Int} (hx : inN n x) : lvl (distL n U r) x = distX n U r x := by
  unfold inN at hx
  have := distL_getD (n := n) (U := U) (r := r) (i := x.toNat) (by omega)
  unfold lvl
  rw [this]
  congr 1; omega
theorem distX_zero {n : Nat} {U : List Cb} {r : Int} (hU : CabN n U) (hr : inN n r) (x : Int) : distX n U r x = 0 ↔ x = r := by
  constructor
  · intro h
    rcases distX_cases hU hr x with ⟨h1, _⟩ | ⟨k, h1, _, h3, _⟩
    · omega
    · have : k = 0 := by omega
      subst this
      simpa [W] using h3
  · rintro rfl
    exact distX_of hU hr (k := 0) (by simp [W]) (fun j hj => by omega)
/-- A node with a level above 0 has a neighbour a level nearer. -/
theorem distX_step {n : Nat} {U : List Cb} {r : Int} (hU : CabN n U) (hr : inN n r) {x : Int} (h : 0 < distX n U r x) : ∃ z, nbr U z x ∧ distX n U r z = distX n U r x - 1 := by
  rcases distX_cases hU hr x with ⟨h1, _⟩ | ⟨k, h1, _, h3, h4⟩
  · omega
  · obtain ⟨m, rfl⟩ : ∃ m, k = m + 1 := ⟨k - 1, by omega⟩
    rcases W_succ.1 h3 with h5 | ⟨z, hz, h5⟩
    · rw [h4 m (by omega)] at h5; simp at h5
    · refine ⟨z, hz, ?_⟩
      have : distX n U r z = m := by
        refine distX_of hU hr h5 (fun j hj => ?_)
        cases hj' : W U r j z
        · rfl
        · have := h4 (j + 1) (by omega)
          rw [W_succ.2 (.inr ⟨z, hz, hj'⟩)] at this; simp at this
      rw [this, h1]; omega
theorem countP_range_one (n : Nat) (r : Nat) (hr : r < n) (q : Nat → Bool) (hq : ∀ i, i < n → (q i = true ↔ i = r)) : (List.range n).countP q = 1 := by
  induction n with
  | zero => omega
  | succ n ih =>
    rw [List.range_succ, List.countP_append, List.countP_singleton]
    by_cases e : r = n
    · subst e
      have h0 : (List.range r).countP q = 0 := by
        rw [List.countP_eq_zero]
        intro i hi hqi
        have := (hq i (by have := List.mem_range.1 hi; omega)).1 hqi
        have := List.mem_range.1 hi
        omega
      rw [h0, if_pos ((hq r (by omega)).2 rfl)]
    · rw [ih (by omega) (fun i hi => hq i (by omega)), if_neg]
      intro h
      exact e ((hq n (by omega)).1 h).symm
theorem ord_dist {p : Pl} {up : List Bool} {r : Int} (hv : validE p = 0) (hr : inN p.ns.length r) : ordB p (distL p.ns.length (upU p.cs up) r) = true := by
  have hV := valid_of hv
  have hU := upU_in (n := p.ns.length) (up := up) hV.cab
  unfold ordB
  rw [decide_eq_true hv, decide_eq_true (show (distL p.ns.length (upU p.cs up) r).length = p.ns.length from distL_length)]
  simp only [Bool.true_and, Bool.and_eq_true, List.all_eq_true, List.mem_range, decide_eq_true_eq]
  refine ⟨fun x hx => ?_, ?_, fun i hi => ?_⟩
  · simp only [distL, List.mem_map, List.mem_range] at hx
    obtain ⟨i, hi, rfl⟩ := hx
    unfold rngB
    rcases distX_cases hU hr (i : Int) with ⟨h1, _⟩ | ⟨k, h1, h2, _, _⟩ <;> simp <;> omega
  · unfold distL
    rw [List.countP_map]
    have hr' := hr
    unfold inN at hr'
    refine countP_range_one _ r.toNat (by omega) _ (fun i hi => ?_)
    simp only [Function.comp, isZ, decide_eq_true_eq]
    rw [distX_zero hU hr]
    omega
  · rw [distL_length] at hi
    have hin : inN p.ns.length (i : Int) := ⟨by omega, by omega⟩
    have hgi : (distL p.ns.length (upU p.cs up) r).getD i 0 = distX p.ns.length (upU p.cs up) r i := distL_getD hi
    unfold ledOk
    rw [hgi]
    by_cases h0 : 0 < distX p.ns.length (upU p.cs up) r i
    · obtain ⟨z, hz, hd⟩ := distX_step hU hr h0
      have hzn := (nbr_in hU hz).1
      have : (ledF p (distL p.ns.length (upU p.cs up) r) p.cs.length).getD i false = true := by
        rw [ledF_iff hV.cab i p.cs.length (Nat.le_refl _)]
        obtain ⟨c, hc, hab⟩ := hz
        obtain ⟨j, hj, hu, rfl⟩ := upP_mem.1 hc
        refine ⟨j, hj, ?_⟩
        rcases hab with ⟨ha, hb⟩ | ⟨hb, ha⟩
        · left
          rw [ha, hb, lvl_dist hzn, lvl_dist hin]
          exact ⟨hd, rfl⟩
        · right
          rw [ha, hb, lvl_dist hzn, lvl_dist hin]
          exact ⟨hd, rfl⟩
      rw [this]; simp
    · simp [h0]
theorem ev_lawOf (p : Pl) (hp : PlOk p) (up : List Bool) (r : Int) (hr : In64 r) : Ev Try.prog 3 [plV p, boolsV up, .sc (.int .i64 r)] (.sc (.bool true)) := by
  have h1 := ev_awake
  have h2 := ev_few p
  have h3 := ev_of p hp up r
  have h4 := ev_good p hp
  have h5 := fun a b c d e => ev_levels p up r a b c d e
  have h6 := fun l m => ev_equal l m
  have h7 := fun l => ev_ordValid p hp l
  unfold plV boolsV intsV at *
  refine ev_fn Try.func3 comp3 (show 3 ≤ Try.f3.ntmps by decide) ?_; unfold cf3 rf3; simp only [↓EVP0, EVQ0, EVQ1, EVQ2, EVQ3, EVQ4, EVA, EVK, EVF, ↓reduceIte, Nat.reduceEqDiff, Nat.reduceAdd, Nat.reduceSub, Nat.reduceMul, Nat.reduceLT, Nat.reduceLeDiff, reduceCtorEq, Int.reduceToNat, Int.reduceLT, Int.reduceLE, Int.reduceAdd, Int.reduceSub, Int.reduceMul, Int.reduceNeg, Int.reduceEq, Nat.reduceMod, forall_eq_or_imp, forall_eq, forall_const, cond_true, cond_false, decide_true, decide_false, true_imp_iff, implies_true, Int.cast_ofNat_Int, forall_eq']
  refine callK_ro h1 ?_ ?_
  · simp only [↓EVP0, EVQ0, EVQ1, EVQ2, EVQ3, EVQ4, EVA, EVK, EVF, ↓reduceIte, Nat.reduceEqDiff, Nat.reduceAdd, Nat.reduceSub, Nat.reduceMul, Nat.reduceLT, Nat.reduceLeDiff, reduceCtorEq, Int.reduceToNat, Int.reduceLT, Int.reduceLE, Int.reduceAdd, Int.reduceSub, Int.reduceMul, Int.reduceNeg, Int.reduceEq, Nat.reduceMod, forall_eq_or_imp, forall_eq, forall_const, cond_true, cond_false, decide_true, decide_false, true_imp_iff, implies_true, Int.cast_ofNat_Int, forall_eq']
  simp only [↓EVP0, EVQ0, EVQ1, EVQ2, EVQ3, EVQ4, EVA, EVK, EVF, ↓reduceIte, Nat.reduceEqDiff, Nat.reduceAdd, Nat.reduceSub, Nat.reduceMul, Nat.reduceLT, Nat.reduceLeDiff, reduceCtorEq, Int.reduceToNat, Int.reduceLT, Int.reduceLE, Int.reduceAdd, Int.reduceSub, Int.reduceMul, Int.reduceNeg, Int.reduceEq, Nat.reduceMod, forall_eq_or_imp, forall_eq, forall_const, cond_true, cond_false, decide_true, decide_false, true_imp_iff, implies_true, Int.cast_ofNat_Int, forall_eq']
  (refine lops_ge_imp ?_; simp only [↓EVP0, EVQ0, EVQ1, EVQ2, EVQ3, EVQ4, EVA, EVK, EVF, ↓reduceIte, Nat.reduceEqDiff, Nat.reduceAdd, Nat.reduceSub, Nat.reduceMul, Nat.reduceLT, Nat.reduceLeDiff, reduceCtorEq, Int.reduceToNat, Int.reduceLT, Int.reduceLE, Int.reduceAdd, Int.reduceSub, Int.reduceMul, Int.reduceNeg, Int.reduceEq, Nat.reduceMod, forall_eq_or_imp, forall_eq, forall_const, cond_true, cond_false, decide_true, decide_false, true_imp_iff, implies_true, Int.cast_ofNat_Int, forall_eq'])
  refine gCallK_ro _ (fun _ => h2) (fun _ => ?_) ?_
  · simp only [↓EVP0, EVQ0, EVQ1, EVQ2, EVQ3, EVQ4, EVA, EVK, EVF, ↓reduceIte, Nat.reduceEqDiff, Nat.reduceAdd, Nat.reduceSub, Nat.reduceMul, Nat.reduceLT, Nat.reduceLeDiff, reduceCtorEq, Int.reduceToNat, Int.reduceLT, Int.reduceLE, Int.reduceAdd, Int.reduceSub, Int.reduceMul, Int.reduceNeg, Int.reduceEq, Nat.reduceMod, forall_eq_or_imp, forall_eq, forall_const, cond_true, cond_false, decide_true, decide_false, true_imp_iff, implies_true, Int.cast_ofNat_Int, forall_eq']
  simp only [↓EVP0, EVQ0, EVQ1, EVQ2, EVQ3, EVQ4, EVA, EVK, EVF, ↓reduceIte, Nat.reduceEqDiff, Nat.reduceAdd, Nat.reduceSub, Nat.reduceMul, Nat.reduceLT, Nat.reduceLeDiff, reduceCtorEq, Int.reduceToNat, Int.reduceLT, Int.reduceLE, Int.reduceAdd, Int.reduceSub, Int.reduceMul, Int.reduceNeg, Int.reduceEq, Nat.reduceMod, forall_eq_or_imp, forall_eq, forall_const, cond_true, cond_false, decide_true, decide_false, true_imp_iff, implies_true, Int.cast_ofNat_Int, forall_eq']
  refine ⟨fun _ => ?_, fun hg => ?_⟩
  · refine callK_ro h1 ?_ ?_
    · simp only [↓EVP0, EVQ0, EVQ1, EVQ2, EVQ3, EVQ4, EVA, EVK, EVF, ↓reduceIte, Nat.reduceEqDiff, Nat.reduceAdd, Nat.reduceSub, Nat.reduceMul, Nat.reduceLT, Nat.reduceLeDiff, reduceCtorEq, Int.reduceToNat, Int.reduceLT, Int.reduceLE, Int.reduceAdd, Int.reduceSub, Int.reduceMul, Int.reduceNeg, Int.reduceEq, Nat.reduceMod, forall_eq_or_imp, forall_eq, forall_const, cond_true, cond_false, decide_true, decide_false, true_imp_iff, implies_true, Int.cast_ofNat_Int, forall_eq']
    simp only [↓EVP0, EVQ0, EVQ1, EVQ2, EVQ3, EVQ4, EVA, EVK, EVF, ↓reduceIte, Nat.reduceEqDiff, Nat.reduceAdd, Nat.reduceSub, Nat.reduceMul, Nat.reduceLT, Nat.reduceLeDiff, reduceCtorEq, Int.reduceToNat, Int.reduceLT, Int.reduceLE, Int.reduceAdd, Int.reduceSub, Int.reduceMul, Int.reduceNeg, Int.reduceEq, Nat.reduceMod, forall_eq_or_imp, forall_eq, forall_const, cond_true, cond_false, decide_true, decide_false, true_imp_iff, implies_true, Int.cast_ofNat_Int, forall_eq']
  refine callK_ro h3 ?_ ?_
  · simp only [↓EVP0, EVQ0, EVQ1, EVQ2, EVQ3, EVQ4, EVA, EVK, EVF, ↓reduceIte, Nat.reduceEqDiff, Nat.reduceAdd, Nat.reduceSub, Nat.reduceMul, Nat.reduceLT, Nat.reduceLeDiff, reduceCtorEq, Int.reduceToNat, Int.reduceLT, Int.reduceLE, Int.reduceAdd, Int.reduceSub, Int.reduceMul, Int.reduceNeg, Int.reduceEq, Nat.reduceMod, forall_eq_or_imp, forall_eq, forall_const, cond_true, cond_false, decide_true, decide_false, true_imp_iff, implies_true, Int.cast_ofNat_Int, forall_eq']
  simp only [↓EVP0, EVQ0, EVQ1, EVQ2, EVQ3, EVQ4, EVA, EVK, EVF, ↓reduceIte, Nat.reduceEqDiff, Nat.reduceAdd, Nat.reduceSub, Nat.reduceMul, Nat.reduceLT, Nat.reduceLeDiff, reduceCtorEq, Int.reduceToNat, Int.reduceLT, Int.reduceLE, Int.reduceAdd, Int.reduceSub, Int.reduceMul, Int.reduceNeg, Int.reduceEq, Nat.reduceMod, forall_eq_or_imp, forall_eq, forall_const, cond_true, cond_false, decide_true, decide_false, true_imp_iff, implies_true, Int.cast_ofNat_Int, forall_eq']
  refine callK_ro h4 ?_ ?_
  · simp only [↓EVP0, EVQ0, EVQ1, EVQ2, EVQ3, EVQ4, EVA, EVK, EVF, ↓reduceIte, Nat.reduceEqDiff, Nat.reduceAdd, Nat.reduceSub, Nat.reduceMul, Nat.reduceLT, Nat.reduceLeDiff, reduceCtorEq, Int.reduceToNat, Int.reduceLT, Int.reduceLE, Int.reduceAdd, Int.reduceSub, Int.reduceMul, Int.reduceNeg, Int.reduceEq, Nat.reduceMod, forall_eq_or_imp, forall_eq, forall_const, cond_true, cond_false, decide_true, decide_false, true_imp_iff, implies_true, Int.cast_ofNat_Int, forall_eq']
  simp only [↓EVP0, EVQ0, EVQ1, EVQ2, EVQ3, EVQ4, EVA, EVK, EVF, ↓reduceIte, Nat.reduceEqDiff, Nat.reduceAdd, Nat.reduceSub, Nat.reduceMul, Nat.reduceLT, Nat.reduceLeDiff, reduceCtorEq, Int.reduceToNat, Int.reduceLT, Int.reduceLE, Int.reduceAdd, Int.reduceSub, Int.reduceMul, Int.reduceNeg, Int.reduceEq, Nat.reduceMod, forall_eq_or_imp, forall_eq, forall_const, cond_true, cond_false, decide_true, decide_false, true_imp_iff, implies_true, Int.cast_ofNat_Int, forall_eq']
  refine ⟨fun hg => ?_, fun hg => ⟨fun hr => ?_, fun hr => ?_⟩⟩
  · have hu : usableB p up = false := by
      unfold usableB
      revert hg
      by_cases h1 : validE p = 0 <;> by_cases h2 : up.length = p.cs.length <;> simp [h1, h2] <;> omega
    simp [ofE, hu]
  all_goals
    have hv : validE p = 0 ∧ up.length = p.cs.length := by
      revert hg
      by_cases h1 : validE p = 0 <;> by_cases h2 : up.length = p.cs.length <;> simp [h1, h2] <;> omega
    have hu : usableB p up = true := by unfold usableB; simp [hv]
  · have : (decide (r < 0) || decide ((p.ns.length : Int) ≤ r)) = true := by revert hr; cases decide (r < 0) <;> simp
    simp [ofE, hu, this]
  · have hrr : (decide (r < 0) || decide ((p.ns.length : Int) ≤ r)) = false := by revert hr; cases decide (r < 0) <;> simp
    have hin : inN p.ns.length r := by simp at hrr; exact ⟨by omega, by omega⟩
    have hof : ofE p up r = (distL p.ns.length (upU p.cs up) r, 0) := by simp [ofE, hu, hrr]
    have hV := valid_of hv.1
    (refine lopsQ_gcall ?_; simp only [↓EVP0, EVQ0, EVQ1, EVQ2, EVQ3, EVQ4, EVA, EVK, EVF, ↓reduceIte, Nat.reduceEqDiff, Nat.reduceAdd, Nat.reduceSub, Nat.reduceMul, Nat.reduceLT, Nat.reduceLeDiff, reduceCtorEq, Int.reduceToNat, Int.reduceLT, Int.reduceLE, Int.reduceAdd, Int.reduceSub, Int.reduceMul, Int.reduceNeg, Int.reduceEq, Nat.reduceMod, forall_eq_or_imp, forall_eq, forall_const, cond_true, cond_false, decide_true, decide_false, true_imp_iff, implies_true, Int.cast_ofNat_Int, forall_eq'])
    simp only [hof, decide_true]
    refine gCallK_ro _ (fun _ => h5 hV.n16 hV.c32 hV.cab hin hv.2) (fun _ => ?_) ?_
    · simp only [↓EVP0, EVQ0, EVQ1, EVQ2, EVQ3, EVQ4, EVA, EVK, EVF, ↓reduceIte, Nat.reduceEqDiff, Nat.reduceAdd, Nat.reduceSub, Nat.reduceMul, Nat.reduceLT, Nat.reduceLeDiff, reduceCtorEq, Int.reduceToNat, Int.reduceLT, Int.reduceLE, Int.reduceAdd, Int.reduceSub, Int.reduceMul, Int.reduceNeg, Int.reduceEq, Nat.reduceMod, forall_eq_or_imp, forall_eq, forall_const, cond_true, cond_false, decide_true, decide_false, true_imp_iff, implies_true, Int.cast_ofNat_Int, forall_eq']
    simp only [↓EVP0, EVQ0, EVQ1, EVQ2, EVQ3, EVQ4, EVA, EVK, EVF, ↓reduceIte, Nat.reduceEqDiff, Nat.reduceAdd, Nat.reduceSub, Nat.reduceMul, Nat.reduceLT, Nat.reduceLeDiff, reduceCtorEq, Int.reduceToNat, Int.reduceLT, Int.reduceLE, Int.reduceAdd, Int.reduceSub, Int.reduceMul, Int.reduceNeg, Int.reduceEq, Nat.reduceMod, forall_eq_or_imp, forall_eq, forall_const, cond_true, cond_false, decide_true, decide_false, true_imp_iff, implies_true, Int.cast_ofNat_Int, forall_eq']
    (refine lopsQ_gcall ?_; simp only [↓EVP0, EVQ0, EVQ1, EVQ2, EVQ3, EVQ4, EVA, EVK, EVF, ↓reduceIte, Nat.reduceEqDiff, Nat.reduceAdd, Nat.reduceSub, Nat.reduceMul, Nat.reduceLT, Nat.reduceLeDiff, reduceCtorEq, Int.reduceToNat, Int.reduceLT, Int.reduceLE, Int.reduceAdd, Int.reduceSub, Int.reduceMul, Int.reduceNeg, Int.reduceEq, Nat.reduceMod, forall_eq_or_imp, forall_eq, forall_const, cond_true, cond_false, decide_true, decide_false, true_imp_iff, implies_true, Int.cast_ofNat_Int, forall_eq'])
    simp only [hof, decide_true]
    refine gCallK_ro _ (fun _ => h6 _ _) (fun _ => ?_) ?_
    · simp only [↓EVP0, EVQ0, EVQ1, EVQ2, EVQ3, EVQ4, EVA, EVK, EVF, ↓reduceIte, Nat.reduceEqDiff, Nat.reduceAdd, Nat.reduceSub, Nat.reduceMul, Nat.reduceLT, Nat.reduceLeDiff, reduceCtorEq, Int.reduceToNat, Int.reduceLT, Int.reduceLE, Int.reduceAdd, Int.reduceSub, Int.reduceMul, Int.reduceNeg, Int.reduceEq, Nat.reduceMod, forall_eq_or_imp, forall_eq, forall_const, cond_true, cond_false, decide_true, decide_false, true_imp_iff, implies_true, Int.cast_ofNat_Int, forall_eq']
    simp only [↓EVP0, EVQ0, EVQ1, EVQ2, EVQ3, EVQ4, EVA, EVK, EVF, ↓reduceIte, Nat.reduceEqDiff, Nat.reduceAdd, Nat.reduceSub, Nat.reduceMul, Nat.reduceLT, Nat.reduceLeDiff, reduceCtorEq, Int.reduceToNat, Int.reduceLT, Int.reduceLE, Int.reduceAdd, Int.reduceSub, Int.reduceMul, Int.reduceNeg, Int.reduceEq, Nat.reduceMod, forall_eq_or_imp, forall_eq, forall_const, cond_true, cond_false, decide_true, decide_false, true_imp_iff, implies_true, Int.cast_ofNat_Int, forall_eq']
    (refine lopsQ_gcall ?_; simp only [↓EVP0, EVQ0, EVQ1, EVQ2, EVQ3, EVQ4, EVA, EVK, EVF, ↓reduceIte, Nat.reduceEqDiff, Nat.reduceAdd, Nat.reduceSub, Nat.reduceMul, Nat.reduceLT, Nat.reduceLeDiff, reduceCtorEq, Int.reduceToNat, Int.reduceLT, Int.reduceLE, Int.reduceAdd, Int.reduceSub, Int.reduceMul, Int.reduceNeg, Int.reduceEq, Nat.reduceMod, forall_eq_or_imp, forall_eq, forall_const, cond_true, cond_false, decide_true, decide_false, true_imp_iff, implies_true, Int.cast_ofNat_Int, forall_eq'])
    simp only [hof, decide_true]
    refine gCallK_ro _ (fun _ => h7 _) (fun _ => ?_) ?_
    · simp only [↓EVP0, EVQ0, EVQ1, EVQ2, EVQ3, EVQ4, EVA, EVK, EVF, ↓reduceIte, Nat.reduceEqDiff, Nat.reduceAdd, Nat.reduceSub, Nat.reduceMul, Nat.reduceLT, Nat.reduceLeDiff, reduceCtorEq, Int.reduceToNat, Int.reduceLT, Int.reduceLE, Int.reduceAdd, Int.reduceSub, Int.reduceMul, Int.reduceNeg, Int.reduceEq, Nat.reduceMod, forall_eq_or_imp, forall_eq, forall_const, cond_true, cond_false, decide_true, decide_false, true_imp_iff, implies_true, Int.cast_ofNat_Int, forall_eq']
    simp only [↓EVP0, EVQ0, EVQ1, EVQ2, EVQ3, EVQ4, EVA, EVK, EVF, ↓reduceIte, Nat.reduceEqDiff, Nat.reduceAdd, Nat.reduceSub, Nat.reduceMul, Nat.reduceLT, Nat.reduceLeDiff, reduceCtorEq, Int.reduceToNat, Int.reduceLT, Int.reduceLE, Int.reduceAdd, Int.reduceSub, Int.reduceMul, Int.reduceNeg, Int.reduceEq, Nat.reduceMod, forall_eq_or_imp, forall_eq, forall_const, cond_true, cond_false, decide_true, decide_false, true_imp_iff, implies_true, Int.cast_ofNat_Int, forall_eq']
    rw [hof]
    simp [ord_dist hv.1 hin]
end Go.Proofs.Ytggaonafmiklaaa
