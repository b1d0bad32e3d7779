/- Chapter 17's Above and what it needs; equality of lists; Chapter 17's small helpers of the statements; Chapter 17's Valid; Chapter 17's Upward and Least; the reference's Other; Distances by relaxing all cables again and again: the plain law, and the reference's levels; The reference's levels: the program's own steps; The reference's order: Above, Least, Fits; A valid order by the program and by the reference; the example of the chapter; The reference's Valid of chapter 14; Paths in a plan and their nodes; Steps of paths, and legal paths; The reference's Legal; Maps from states of paths to lengths. Conditions: none. -/
import Derived.Test.YtcdepkflghcjpaaDoorME
namespace Go.Proofs.YtcdepkflghcjpaaDoor
set_option linter.unusedSimpArgs false
set_option linter.unusedVariables false
open Go.RowKit
set_option maxRecDepth 20000

theorem roTo2_cell {h : LH} {k ver : Nat} {z n : Nat} {f : Nat → List LV} (hk : k < h.n) (hv : h.f k = (ver, .box [.rsl z n f])) : roTo2 h (.ptr k ver 0 0 0) (.rptr [.rsl z n f]) := by
  refine ⟨hk, by rw [hv], rfl, rfl, rfl, ?_⟩
  rw [hv]
  exact ⟨by rw [roTo1_rsl], trivial⟩
theorem ev_isNaN (x : Int) : Ev Tryd.prog 95 [.sc (.int .i64 x)] (.sc (.bool false)) := by
  refine ev_fn Tryd.func95 comp95 (show 1 ≤ Tryd.f95.ntmps by decide) ?_; unfold cf95 rf95; simp only [↓EVP0, EVQ0, EVQ1, EVQ2, EVQ3, EVQ4, EVA, EVK, EVF, ↓reduceIte, Nat.reduceEqDiff, Nat.reduceAdd, Nat.reduceSub, Nat.reduceMul, Nat.reduceLT, Nat.reduceLeDiff, reduceCtorEq, Int.reduceToNat, Int.reduceLT, Int.reduceLE, Int.reduceAdd, Int.reduceSub, Int.reduceMul, Int.reduceNeg, Int.reduceEq, Nat.reduceMod, forall_eq_or_imp, forall_eq, forall_const, cond_true, cond_false, decide_true, decide_false, true_imp_iff, implies_true, Int.cast_ofNat_Int, forall_eq']
def cmpI (x y : Int) : Int := bif decide (x < y) then -1 else bif decide (y < x) then 1 else 0
theorem ev_compare (x y : Int) : Ev Tryd.prog 74 [.sc (.int .i64 x), .sc (.int .i64 y)] (.sc (.int .i64 (cmpI x y))) := by
  refine ev_fn Tryd.func74 comp74 (show 2 ≤ Tryd.f74.ntmps by decide) ?_; unfold cf74 rf74; simp only [↓EVP0, EVQ0, EVQ1, EVQ2, EVQ3, EVQ4, EVA, EVK, EVF, ↓reduceIte, Nat.reduceEqDiff, Nat.reduceAdd, Nat.reduceSub, Nat.reduceMul, Nat.reduceLT, Nat.reduceLeDiff, reduceCtorEq, Int.reduceToNat, Int.reduceLT, Int.reduceLE, Int.reduceAdd, Int.reduceSub, Int.reduceMul, Int.reduceNeg, Int.reduceEq, Nat.reduceMod, forall_eq_or_imp, forall_eq, forall_const, cond_true, cond_false, decide_true, decide_false, true_imp_iff, implies_true, Int.cast_ofNat_Int, forall_eq']
  refine callK_ro (ev_isNaN x) ?_ ?_
  · simp only [↓EVP0, EVQ0, EVQ1, EVQ2, EVQ3, EVQ4, EVA, EVK, EVF, ↓reduceIte, Nat.reduceEqDiff, Nat.reduceAdd, Nat.reduceSub, Nat.reduceMul, Nat.reduceLT, Nat.reduceLeDiff, reduceCtorEq, Int.reduceToNat, Int.reduceLT, Int.reduceLE, Int.reduceAdd, Int.reduceSub, Int.reduceMul, Int.reduceNeg, Int.reduceEq, Nat.reduceMod, forall_eq_or_imp, forall_eq, forall_const, cond_true, cond_false, decide_true, decide_false, true_imp_iff, implies_true, Int.cast_ofNat_Int, forall_eq']
  simp only [↓EVP0, EVQ0, EVQ1, EVQ2, EVQ3, EVQ4, EVA, EVK, EVF, ↓reduceIte, Nat.reduceEqDiff, Nat.reduceAdd, Nat.reduceSub, Nat.reduceMul, Nat.reduceLT, Nat.reduceLeDiff, reduceCtorEq, Int.reduceToNat, Int.reduceLT, Int.reduceLE, Int.reduceAdd, Int.reduceSub, Int.reduceMul, Int.reduceNeg, Int.reduceEq, Nat.reduceMod, forall_eq_or_imp, forall_eq, forall_const, cond_true, cond_false, decide_true, decide_false, true_imp_iff, implies_true, Int.cast_ofNat_Int, forall_eq']
  refine callK_ro (ev_isNaN y) ?_ ?_
  · simp only [↓EVP0, EVQ0, EVQ1, EVQ2, EVQ3, EVQ4, EVA, EVK, EVF, ↓reduceIte, Nat.reduceEqDiff, Nat.reduceAdd, Nat.reduceSub, Nat.reduceMul, Nat.reduceLT, Nat.reduceLeDiff, reduceCtorEq, Int.reduceToNat, Int.reduceLT, Int.reduceLE, Int.reduceAdd, Int.reduceSub, Int.reduceMul, Int.reduceNeg, Int.reduceEq, Nat.reduceMod, forall_eq_or_imp, forall_eq, forall_const, cond_true, cond_false, decide_true, decide_false, true_imp_iff, implies_true, Int.cast_ofNat_Int, forall_eq']
  simp only [↓EVP0, EVQ0, EVQ1, EVQ2, EVQ3, EVQ4, EVA, EVK, EVF, ↓reduceIte, Nat.reduceEqDiff, Nat.reduceAdd, Nat.reduceSub, Nat.reduceMul, Nat.reduceLT, Nat.reduceLeDiff, reduceCtorEq, Int.reduceToNat, Int.reduceLT, Int.reduceLE, Int.reduceAdd, Int.reduceSub, Int.reduceMul, Int.reduceNeg, Int.reduceEq, Nat.reduceMod, forall_eq_or_imp, forall_eq, forall_const, cond_true, cond_false, decide_true, decide_false, true_imp_iff, implies_true, Int.cast_ofNat_Int, forall_eq']
  refine ⟨fun h => by simp [cmpI, h], fun h => ⟨fun h2 => by simp [cmpI, h, h2], fun h2 => by simp [cmpI, h, h2]⟩⟩
def orI : List Int → Int
  | [] => 0
  | x :: r => bif decide (x = 0) then orI r else x
theorem orI_take (l : List Int) (i : Nat) (hi : i < l.length) (h : ∀ j, j < i → l.getD j 0 = 0) : orI l = orI (l.drop i) := by
  induction i generalizing l with
  | zero => rfl
  | succ i ih =>
    cases l with
    | nil => simp at hi
    | cons x r =>
      have h0 := h 0 (by omega)
      simp only [List.getD_cons_zero] at h0
      have := ih r (by simpa using hi) (fun j hj => by have := h (j + 1) (by omega); simpa using this)
      simp only [orI, h0, decide_true, cond_true, List.drop_succ_cons]
      exact this
theorem ev_or (l : List Int) : Ev Tryd.prog 73 [intsV l] (.sc (.int .i64 (orI l))) := by
  unfold intsV
  refine ev_fn Tryd.func73 comp73 (show 1 ≤ Tryd.f73.ntmps by decide) ?_; unfold cf73 rf73; simp only [↓EVP0, EVQ0, EVQ1, EVQ2, EVQ3, EVQ4, EVA, EVK, EVF, ↓reduceIte, Nat.reduceEqDiff, Nat.reduceAdd, Nat.reduceSub, Nat.reduceMul, Nat.reduceLT, Nat.reduceLeDiff, reduceCtorEq, Int.reduceToNat, Int.reduceLT, Int.reduceLE, Int.reduceAdd, Int.reduceSub, Int.reduceMul, Int.reduceNeg, Int.reduceEq, Nat.reduceMod, forall_eq_or_imp, forall_eq, forall_const, cond_true, cond_false, decide_true, decide_false, true_imp_iff, implies_true, Int.cast_ofNat_Int, forall_eq']
  intro hl
  refine lwp_for (α := Unit) l.length (fun i _ => ∀ j, j < i → l.getD j 0 = 0) (fun i _ => [(3, .sc (.int .i64 0)), (6, .rsl 1 l.length (intsF l)), (7, .sc (.int .i64 l.length)), (8, .sc (.int .i64 i))]) (fun _ _ => []) () (fun j hj => absurd hj (Nat.not_lt_zero _)) ?_ (fun _ _ => Nat.zero_le _) ?_
  · simp only [↓EVP0, EVQ0, EVQ1, EVQ2, EVQ3, EVQ4, EVA, EVK, EVF, ↓reduceIte, Nat.reduceEqDiff, Nat.reduceAdd, Nat.reduceSub, Nat.reduceMul, Nat.reduceLT, Nat.reduceLeDiff, reduceCtorEq, Int.reduceToNat, Int.reduceLT, Int.reduceLE, Int.reduceAdd, Int.reduceSub, Int.reduceMul, Int.reduceNeg, Int.reduceEq, Nat.reduceMod, forall_eq_or_imp, forall_eq, forall_const, cond_true, cond_false, decide_true, decide_false, true_imp_iff, implies_true, Int.cast_ofNat_Int, forall_eq']
  intro i _ hi hx
  unfold lb73_0
  simp only [↓EVP0, EVQ0, EVQ1, EVQ2, EVQ3, EVQ4, EVA, EVK, EVF, ↓reduceIte, Nat.reduceEqDiff, Nat.reduceAdd, Nat.reduceSub, Nat.reduceMul, Nat.reduceLT, Nat.reduceLeDiff, reduceCtorEq, Int.reduceToNat, Int.reduceLT, Int.reduceLE, Int.reduceAdd, Int.reduceSub, Int.reduceMul, Int.reduceNeg, Int.reduceEq, Nat.reduceMod, forall_eq_or_imp, forall_eq, forall_const, cond_true, cond_false, decide_true, decide_false, true_imp_iff, implies_true, Int.cast_ofNat_Int, forall_eq']
  refine ⟨fun hg => ?_, fun hg => ?_⟩
  · have hi2 : i < l.length := by simpa using hg
    have hd : orI l = orI (l.getD i 0 :: l.drop (i + 1)) := by
      rw [orI_take l i hi2 hx, List.drop_eq_getElem_cons hi2, List.getD_eq_getElem?_getD, List.getElem?_eq_getElem hi2]; rfl
    refine ⟨⟨by omega, by omega⟩, fun h => ?_, fun h => ⟨by unfold In64; omega, hi2, (), fun j hj => ?_⟩⟩
    · rw [hd]; simp at h; simp [orI, h]
    · by_cases e : j = i
      · subst e; simpa using h
      · exact hx j (by omega)
  · have hii : i = l.length := by simp at hg; omega
    have : ∀ (l : List Int), (∀ j, j < l.length → l.getD j 0 = 0) → orI l = 0 := by
      intro l
      induction l with
      | nil => intro _; rfl
      | cons x r ih =>
        intro h
        have h0 := h 0 (by simp)
        simp only [List.getD_cons_zero] at h0
        simp only [orI, h0, decide_true, cond_true]
        exact ih (fun j hj => by have := h (j + 1) (by simpa using hj); simpa using this)
    rw [this l (by subst hii; exact hx)]
def hasB (l : List Int) (x : Int) : Bool := decide (0 ≤ x) && (decide (x < l.length) && decide (0 ≤ l.getD x.toNat 0))
theorem ev_has (l : List Int) (x : Int) : Ev Tryd.prog 72 [.sc (.int .i64 x), .rptr [intsV l]] (.sc (.bool (hasB l x))) := by
  unfold intsV
  refine ev_fn Tryd.func72 comp72 (show 2 ≤ Tryd.f72.ntmps by decide) ?_; unfold cf72 rf72; simp only [↓EVP0, EVQ0, EVQ1, EVQ2, EVQ3, EVQ4, EVA, EVK, EVF, ↓reduceIte, Nat.reduceEqDiff, Nat.reduceAdd, Nat.reduceSub, Nat.reduceMul, Nat.reduceLT, Nat.reduceLeDiff, reduceCtorEq, Int.reduceToNat, Int.reduceLT, Int.reduceLE, Int.reduceAdd, Int.reduceSub, Int.reduceMul, Int.reduceNeg, Int.reduceEq, Nat.reduceMod, forall_eq_or_imp, forall_eq, forall_const, cond_true, cond_false, decide_true, decide_false, true_imp_iff, implies_true, Int.cast_ofNat_Int, forall_eq']
  refine ⟨fun hg => ?_, ?_⟩
  · revert hg; cases h : decide (0 ≤ x) <;> simp at h ⊢; omega
  · unfold hasB; cases decide (0 ≤ x) <;> cases decide (x < l.length) <;> simp
def aboveB (l : List Int) (a b : Int) : Bool := hasB l a && (hasB l b && (decide (l.getD a.toNat 0 < l.getD b.toNat 0) || (decide (l.getD a.toNat 0 = l.getD b.toNat 0) && decide (a < b))))
theorem ev_above (l : List Int) (a b : Int) : Ev Tryd.prog 40 [.agg [intsV l], .sc (.int .i64 a), .sc (.int .i64 b)] (.sc (.bool (aboveB l a b))) := by
  have h28 := ev_has l
  unfold intsV at *
  refine ev_fn Tryd.func40 comp40 (show 3 ≤ Tryd.f40.ntmps by decide) ?_; unfold cf40 rf40; simp only [↓EVP0, EVQ0, EVQ1, EVQ2, EVQ3, EVQ4, EVA, EVK, EVF, ↓reduceIte, Nat.reduceEqDiff, Nat.reduceAdd, Nat.reduceSub, Nat.reduceMul, Nat.reduceLT, Nat.reduceLeDiff, reduceCtorEq, Int.reduceToNat, Int.reduceLT, Int.reduceLE, Int.reduceAdd, Int.reduceSub, Int.reduceMul, Int.reduceNeg, Int.reduceEq, Nat.reduceMod, forall_eq_or_imp, forall_eq, forall_const, cond_true, cond_false, decide_true, decide_false, true_imp_iff, implies_true, Int.cast_ofNat_Int, forall_eq']
  refine ⟨by decide, callK_frz (h28 a) ?_ ?_ ?_⟩
  · simp only [↓EVP0, EVQ0, EVQ1, EVQ2, EVQ3, EVQ4, EVA, EVK, EVF, ↓reduceIte, Nat.reduceEqDiff, Nat.reduceAdd, Nat.reduceSub, Nat.reduceMul, Nat.reduceLT, Nat.reduceLeDiff, reduceCtorEq, Int.reduceToNat, Int.reduceLT, Int.reduceLE, Int.reduceAdd, Int.reduceSub, Int.reduceMul, Int.reduceNeg, Int.reduceEq, Nat.reduceMod, forall_eq_or_imp, forall_eq, forall_const, cond_true, cond_false, decide_true, decide_false, true_imp_iff, implies_true, Int.cast_ofNat_Int, forall_eq']
    exact roTo2_cell (by simp [mkH]) rfl
  · simp only [↓EVP0, EVQ0, EVQ1, EVQ2, EVQ3, EVQ4, EVA, EVK, EVF, ↓reduceIte, Nat.reduceEqDiff, Nat.reduceAdd, Nat.reduceSub, Nat.reduceMul, Nat.reduceLT, Nat.reduceLeDiff, reduceCtorEq, Int.reduceToNat, Int.reduceLT, Int.reduceLE, Int.reduceAdd, Int.reduceSub, Int.reduceMul, Int.reduceNeg, Int.reduceEq, Nat.reduceMod, forall_eq_or_imp, forall_eq, forall_const, cond_true, cond_false, decide_true, decide_false, true_imp_iff, implies_true, Int.cast_ofNat_Int, forall_eq']
  simp only [↓EVP0, EVQ0, EVQ1, EVQ2, EVQ3, EVQ4, EVA, EVK, EVF, ↓reduceIte, Nat.reduceEqDiff, Nat.reduceAdd, Nat.reduceSub, Nat.reduceMul, Nat.reduceLT, Nat.reduceLeDiff, reduceCtorEq, Int.reduceToNat, Int.reduceLT, Int.reduceLE, Int.reduceAdd, Int.reduceSub, Int.reduceMul, Int.reduceNeg, Int.reduceEq, Nat.reduceMod, forall_eq_or_imp, forall_eq, forall_const, cond_true, cond_false, decide_true, decide_false, true_imp_iff, implies_true, Int.cast_ofNat_Int, forall_eq']
  refine lops_ge_imp ?_
  simp only [↓EVP0, EVQ0, EVQ1, EVQ2, EVQ3, EVQ4, EVA, EVK, EVF, ↓reduceIte, Nat.reduceEqDiff, Nat.reduceAdd, Nat.reduceSub, Nat.reduceMul, Nat.reduceLT, Nat.reduceLeDiff, reduceCtorEq, Int.reduceToNat, Int.reduceLT, Int.reduceLE, Int.reduceAdd, Int.reduceSub, Int.reduceMul, Int.reduceNeg, Int.reduceEq, Nat.reduceMod, forall_eq_or_imp, forall_eq, forall_const, cond_true, cond_false, decide_true, decide_false, true_imp_iff, implies_true, Int.cast_ofNat_Int, forall_eq']
  refine ⟨fun hg => ⟨hg, hg, by decide⟩, gCallK_frz _ (fun _ => h28 b) (fun _ => ?_) ?_ ?_⟩
  · simp only [↓EVP0, EVQ0, EVQ1, EVQ2, EVQ3, EVQ4, EVA, EVK, EVF, ↓reduceIte, Nat.reduceEqDiff, Nat.reduceAdd, Nat.reduceSub, Nat.reduceMul, Nat.reduceLT, Nat.reduceLeDiff, reduceCtorEq, Int.reduceToNat, Int.reduceLT, Int.reduceLE, Int.reduceAdd, Int.reduceSub, Int.reduceMul, Int.reduceNeg, Int.reduceEq, Nat.reduceMod, forall_eq_or_imp, forall_eq, forall_const, cond_true, cond_false, decide_true, decide_false, true_imp_iff, implies_true, Int.cast_ofNat_Int, forall_eq']
    exact roTo2_cell (by simp [mkH]) rfl
  · simp only [↓EVP0, EVQ0, EVQ1, EVQ2, EVQ3, EVQ4, EVA, EVK, EVF, ↓reduceIte, Nat.reduceEqDiff, Nat.reduceAdd, Nat.reduceSub, Nat.reduceMul, Nat.reduceLT, Nat.reduceLeDiff, reduceCtorEq, Int.reduceToNat, Int.reduceLT, Int.reduceLE, Int.reduceAdd, Int.reduceSub, Int.reduceMul, Int.reduceNeg, Int.reduceEq, Nat.reduceMod, forall_eq_or_imp, forall_eq, forall_const, cond_true, cond_false, decide_true, decide_false, true_imp_iff, implies_true, Int.cast_ofNat_Int, forall_eq']
  simp only [↓EVP0, EVQ0, EVQ1, EVQ2, EVQ3, EVQ4, EVA, EVK, EVF, ↓reduceIte, Nat.reduceEqDiff, Nat.reduceAdd, Nat.reduceSub, Nat.reduceMul, Nat.reduceLT, Nat.reduceLeDiff, reduceCtorEq, Int.reduceToNat, Int.reduceLT, Int.reduceLE, Int.reduceAdd, Int.reduceSub, Int.reduceMul, Int.reduceNeg, Int.reduceEq, Nat.reduceMod, forall_eq_or_imp, forall_eq, forall_const, cond_true, cond_false, decide_true, decide_false, true_imp_iff, implies_true, Int.cast_ofNat_Int, forall_eq']
  refine ⟨fun hg => ?_, fun hg => ?_⟩
  · unfold aboveB; revert hg; cases hasB l a <;> cases hasB l b <;> simp
  · have hab : hasB l a = true ∧ hasB l b = true := by revert hg; cases hasB l a <;> cases hasB l b <;> simp
    have ha := hab.1
    have hb := hab.2
    simp only [hasB, Bool.and_eq_true, decide_eq_true_eq] at ha hb
    refine ⟨⟨ha.1, ha.2.1⟩, ⟨hb.1, hb.2.1⟩, qCallK_ro (ev_compare _ _) ?_ ?_⟩
    · simp only [↓EVP0, EVQ0, EVQ1, EVQ2, EVQ3, EVQ4, EVA, EVK, EVF, ↓reduceIte, Nat.reduceEqDiff, Nat.reduceAdd, Nat.reduceSub, Nat.reduceMul, Nat.reduceLT, Nat.reduceLeDiff, reduceCtorEq, Int.reduceToNat, Int.reduceLT, Int.reduceLE, Int.reduceAdd, Int.reduceSub, Int.reduceMul, Int.reduceNeg, Int.reduceEq, Nat.reduceMod, forall_eq_or_imp, forall_eq, forall_const, cond_true, cond_false, decide_true, decide_false, true_imp_iff, implies_true, Int.cast_ofNat_Int, forall_eq']
    simp only [↓EVP0, EVQ0, EVQ1, EVQ2, EVQ3, EVQ4, EVA, EVK, EVF, ↓reduceIte, Nat.reduceEqDiff, Nat.reduceAdd, Nat.reduceSub, Nat.reduceMul, Nat.reduceLT, Nat.reduceLeDiff, reduceCtorEq, Int.reduceToNat, Int.reduceLT, Int.reduceLE, Int.reduceAdd, Int.reduceSub, Int.reduceMul, Int.reduceNeg, Int.reduceEq, Nat.reduceMod, forall_eq_or_imp, forall_eq, forall_const, cond_true, cond_false, decide_true, decide_false, true_imp_iff, implies_true, Int.cast_ofNat_Int, forall_eq']
    refine qCallK_ro (ev_compare _ _) ?_ ?_
    · simp only [↓EVP0, EVQ0, EVQ1, EVQ2, EVQ3, EVQ4, EVA, EVK, EVF, ↓reduceIte, Nat.reduceEqDiff, Nat.reduceAdd, Nat.reduceSub, Nat.reduceMul, Nat.reduceLT, Nat.reduceLeDiff, reduceCtorEq, Int.reduceToNat, Int.reduceLT, Int.reduceLE, Int.reduceAdd, Int.reduceSub, Int.reduceMul, Int.reduceNeg, Int.reduceEq, Nat.reduceMod, forall_eq_or_imp, forall_eq, forall_const, cond_true, cond_false, decide_true, decide_false, true_imp_iff, implies_true, Int.cast_ofNat_Int, forall_eq']
    simp only [↓EVP0, EVQ0, EVQ1, EVQ2, EVQ3, EVQ4, EVA, EVK, EVF, ↓reduceIte, Nat.reduceEqDiff, Nat.reduceAdd, Nat.reduceSub, Nat.reduceMul, Nat.reduceLT, Nat.reduceLeDiff, reduceCtorEq, Int.reduceToNat, Int.reduceLT, Int.reduceLE, Int.reduceAdd, Int.reduceSub, Int.reduceMul, Int.reduceNeg, Int.reduceEq, Nat.reduceMod, forall_eq_or_imp, forall_eq, forall_const, cond_true, cond_false, decide_true, decide_false, true_imp_iff, implies_true, Int.cast_ofNat_Int, forall_eq']
    refine ⟨intsF [cmpI (l.getD a.toNat 0) (l.getD b.toNat 0), cmpI a b], fun i hi => ?_, qCallK_ro (ev_or [cmpI (l.getD a.toNat 0) (l.getD b.toNat 0), cmpI a b]) ?_ ?_⟩
    · obtain rfl | rfl : i = 0 ∨ i = 1 := by omega
      · rfl
      · rfl
    · simp only [↓EVP0, EVQ0, EVQ1, EVQ2, EVQ3, EVQ4, EVA, EVK, EVF, ↓reduceIte, Nat.reduceEqDiff, Nat.reduceAdd, Nat.reduceSub, Nat.reduceMul, Nat.reduceLT, Nat.reduceLeDiff, reduceCtorEq, Int.reduceToNat, Int.reduceLT, Int.reduceLE, Int.reduceAdd, Int.reduceSub, Int.reduceMul, Int.reduceNeg, Int.reduceEq, Nat.reduceMod, forall_eq_or_imp, forall_eq, forall_const, cond_true, cond_false, decide_true, decide_false, true_imp_iff, implies_true, Int.cast_ofNat_Int, forall_eq']
    simp only [↓EVP0, EVQ0, EVQ1, EVQ2, EVQ3, EVQ4, EVA, EVK, EVF, ↓reduceIte, Nat.reduceEqDiff, Nat.reduceAdd, Nat.reduceSub, Nat.reduceMul, Nat.reduceLT, Nat.reduceLeDiff, reduceCtorEq, Int.reduceToNat, Int.reduceLT, Int.reduceLE, Int.reduceAdd, Int.reduceSub, Int.reduceMul, Int.reduceNeg, Int.reduceEq, Nat.reduceMod, forall_eq_or_imp, forall_eq, forall_const, cond_true, cond_false, decide_true, decide_false, true_imp_iff, implies_true, Int.cast_ofNat_Int, forall_eq']
    unfold aboveB
    rw [hab.1, hab.2]
    generalize l.getD a.toNat 0 = x
    generalize l.getD b.toNat 0 = y
    unfold cmpI
    by_cases h1 : x < y
    · simp [h1, orI]
    · by_cases h2 : y < x
      · have : ¬ x = y := by omega
        simp [h1, h2, orI, this]
      · have : x = y := by omega
        subst this
        by_cases h3 : a < b
        · simp [h1, orI, h3]
        · by_cases h4 : b < a <;> simp [h1, orI, h3, h4]
end Go.Proofs.YtcdepkflghcjpaaDoor
namespace Go.Proofs.YtcdepkflghcjpaaDoor
set_option linter.unusedSimpArgs false
set_option linter.unusedVariables false
open Go.RowKit

end Go.Proofs.YtcdepkflghcjpaaDoor
namespace Go.Proofs.YtcdepkflghcjpaaDoor
set_option linter.unusedSimpArgs false
set_option linter.unusedVariables false
open Go.RowKit

def lvl (l : List Int) (x : Int) : Int := l.getD x.toNat 0
def ledS (l : List Int) (c : Cb) (m : List Bool) : List Bool :=
  bif decide (lvl l c.a = lvl l c.b - 1) then m.set c.b.toNat true else bif decide (lvl l c.b = lvl l c.a - 1) then m.set c.a.toNat true else m
def ledF (p : Pl) (l : List Int) : Nat → List Bool
  | 0 => List.replicate p.ns.length false
  | i + 1 => ledS l (p.cs.getD i default) (ledF p l i)
def rngB (n : Nat) (x : Int) : Bool := decide (-1 ≤ x) && decide (x < n)
def isZ (x : Int) : Bool := decide (x = 0)
def ledOk (p : Pl) (l : List Int) (i : Nat) : Bool := !(decide (0 < l.getD i 0) && !(ledF p l p.cs.length).getD i false)
def ordB (p : Pl) (l : List Int) : Bool :=
  (decide (validE p = 0) && decide (l.length = p.ns.length)) && (l.all (rngB p.ns.length) && (decide (l.countP isZ = 1) && (List.range l.length).all (ledOk p l)))
theorem ledF_len (p : Pl) (l : List Int) (i : Nat) : (ledF p l i).length = p.ns.length := by
  induction i with
  | zero => simp [ledF]
  | succ i ih =>
    simp only [ledF, ledS]
    cases decide (lvl l (p.cs.getD i default).a = lvl l (p.cs.getD i default).b - 1) <;> cases decide (lvl l (p.cs.getD i default).b = lvl l (p.cs.getD i default).a - 1) <;> simp [ih]
theorem ev_ordValid (p : Pl) (hp : PlOk p) (l : List Int) : Ev Tryd.prog 37 [plV p, .agg [intsV l]] (.sc (.bool (ordB p l))) := by
  have h25 := ev_valid p hp
  unfold plV intsV at *
  refine ev_fn Tryd.func37 comp37 (show 2 ≤ Tryd.f37.ntmps by decide) ?_; unfold cf37 rf37; simp only [↓EVP0, EVQ0, EVQ1, EVQ2, EVQ3, EVQ4, EVA, EVK, EVF, ↓reduceIte, Nat.reduceEqDiff, Nat.reduceAdd, Nat.reduceSub, Nat.reduceMul, Nat.reduceLT, Nat.reduceLeDiff, reduceCtorEq, Int.reduceToNat, Int.reduceLT, Int.reduceLE, Int.reduceAdd, Int.reduceSub, Int.reduceMul, Int.reduceNeg, Int.reduceEq, Nat.reduceMod, forall_eq_or_imp, forall_eq, forall_const, cond_true, cond_false, decide_true, decide_false, true_imp_iff, implies_true, Int.cast_ofNat_Int, forall_eq']
  refine callK_ro h25 ?_ ?_
  · simp only [↓EVP0, EVQ0, EVQ1, EVQ2, EVQ3, EVQ4, EVA, EVK, EVF, ↓reduceIte, Nat.reduceEqDiff, Nat.reduceAdd, Nat.reduceSub, Nat.reduceMul, Nat.reduceLT, Nat.reduceLeDiff, reduceCtorEq, Int.reduceToNat, Int.reduceLT, Int.reduceLE, Int.reduceAdd, Int.reduceSub, Int.reduceMul, Int.reduceNeg, Int.reduceEq, Nat.reduceMod, forall_eq_or_imp, forall_eq, forall_const, cond_true, cond_false, decide_true, decide_false, true_imp_iff, implies_true, Int.cast_ofNat_Int, forall_eq']
  simp only [↓EVP0, EVQ0, EVQ1, EVQ2, EVQ3, EVQ4, EVA, EVK, EVF, ↓reduceIte, Nat.reduceEqDiff, Nat.reduceAdd, Nat.reduceSub, Nat.reduceMul, Nat.reduceLT, Nat.reduceLeDiff, reduceCtorEq, Int.reduceToNat, Int.reduceLT, Int.reduceLE, Int.reduceAdd, Int.reduceSub, Int.reduceMul, Int.reduceNeg, Int.reduceEq, Nat.reduceMod, forall_eq_or_imp, forall_eq, forall_const, cond_true, cond_false, decide_true, decide_false, true_imp_iff, implies_true, Int.cast_ofNat_Int, forall_eq']
  have hu : ∀ (g : Bool), (decide (validE p = 0) && decide (l.length = p.ns.length)) = false → false = ordB p l := fun _ h => by unfold ordB; rw [h]; rfl
  refine ⟨fun hg => hu true ?_, fun hg => ?_⟩
  · revert hg; by_cases h1 : validE p = 0 <;> simp [h1]; omega
  have hok : validE p = 0 ∧ l.length = p.ns.length := by
    revert hg; by_cases h1 : validE p = 0 <;> simp [h1]; omega
  obtain ⟨hv, hlen⟩ := hok
  have hV := valid_of hv
  intro _
  refine lwp_for (α := Unit) l.length (fun i _ => (l.take i).all (rngB p.ns.length) = true) (fun i _ => [(2, .ptr 0 0 0 0 0), (3, .ptr 1 0 0 0 0), (26, .rsl 1 l.length (intsF l)), (27, .sc (.int .i64 l.length)), (28, .sc (.int .i64 i)), (5, .sc (.int .i64 ((l.take i).countP isZ)))])
    (fun i _ => [(0, .box [.rsl 3 p.ns.length (ndsF p.ns), .rsl 6 p.cs.length (cbsF p.cs)]), (0, .box [.rsl 1 l.length (intsF l)])]) () rfl ?_ (fun _ _ => Nat.zero_le _) ?_
  · simp only [↓EVP0, EVQ0, EVQ1, EVQ2, EVQ3, EVQ4, EVA, EVK, EVF, ↓reduceIte, Nat.reduceEqDiff, Nat.reduceAdd, Nat.reduceSub, Nat.reduceMul, Nat.reduceLT, Nat.reduceLeDiff, reduceCtorEq, Int.reduceToNat, Int.reduceLT, Int.reduceLE, Int.reduceAdd, Int.reduceSub, Int.reduceMul, Int.reduceNeg, Int.reduceEq, Nat.reduceMod, forall_eq_or_imp, forall_eq, forall_const, cond_true, cond_false, decide_true, decide_false, true_imp_iff, implies_true, Int.cast_ofNat_Int, forall_eq']
    rfl
  intro i _ hi hx
  unfold lb37_2
  simp only [↓EVP0, EVQ0, EVQ1, EVQ2, EVQ3, EVQ4, EVA, EVK, EVF, ↓reduceIte, Nat.reduceEqDiff, Nat.reduceAdd, Nat.reduceSub, Nat.reduceMul, Nat.reduceLT, Nat.reduceLeDiff, reduceCtorEq, Int.reduceToNat, Int.reduceLT, Int.reduceLE, Int.reduceAdd, Int.reduceSub, Int.reduceMul, Int.reduceNeg, Int.reduceEq, Nat.reduceMod, forall_eq_or_imp, forall_eq, forall_const, cond_true, cond_false, decide_true, decide_false, true_imp_iff, implies_true, Int.cast_ofNat_Int, forall_eq']
  refine ⟨fun hg => ?_, fun hg => ?_⟩
  · have hi2 : i < l.length := by simpa using hg
    have hcnt : (l.take (i + 1)).countP isZ = (l.take i).countP isZ + (if isZ (l.getD i 0) then 1 else 0) := by
      rw [take_succ_getD 0 l i hi2, List.countP_append, List.countP_singleton]
    have hcle : (l.take i).countP isZ ≤ i := Nat.le_trans List.countP_le_length (by simp; omega)
    refine ⟨⟨by omega, by omega⟩, fun hg => ?_, fun hg => ?_⟩
    · have : rngB p.ns.length (l.getD i 0) = false := by
        unfold rngB; revert hg; cases h1 : decide (l.getD i 0 < -1) <;> simp at h1 ⊢ <;> omega
      have := all_fail (q := rngB p.ns.length) 0 hi2 this
      simp [ordB, this]
    · have hr : rngB p.ns.length (l.getD i 0) = true := by
        unfold rngB; revert hg; cases h1 : decide (l.getD i 0 < -1) <;> simp at h1 ⊢ <;> omega
      have hs := all_step (q := rngB p.ns.length) 0 hi2 hx hr
      refine ⟨fun hz => ?_, fun hz => ?_⟩
      · have hz' : isZ (l.getD i 0) = true := hz
        rw [hcnt, hz']
        refine ⟨by unfold In64; omega, by unfold In64; omega, hi2, (), hs, ?_⟩
        simp
      · have hz' : isZ (l.getD i 0) = false := hz
        rw [hcnt, hz']
        refine ⟨by unfold In64; omega, hi2, (), hs, ?_⟩
        simp
  have hii : i = l.length := by simp at hg; omega
  subst hii
  have hR := all_len hx
  rw [List.take_length]
  refine ⟨fun hg => ?_, fun hg _ => ?_⟩
  · have : decide (l.countP isZ = 1) = false := by simp at hg ⊢; omega
    unfold ordB; rw [this]; simp
  have hC : decide (l.countP isZ = 1) = true := by simp at hg ⊢; omega
  refine ⟨by have := hV.n16; unfold mksC; omega, fun _ => ?_⟩
  refine lwp_for (α := Unit) p.cs.length (fun i _ => True) (fun i _ => [(2, .ptr 0 0 0 0 0), (3, .ptr 1 0 0 0 0), (8, .sl 2 0 1 0 p.ns.length), (53, .rsl 6 p.cs.length (cbsF p.cs)), (54, .sc (.int .i64 p.cs.length)), (55, .sc (.int .i64 i))])
    (fun i _ => [(0, .box [.rsl 3 p.ns.length (ndsF p.ns), .rsl 6 p.cs.length (cbsF p.cs)]), (0, .box [.rsl 1 l.length (intsF l)]), (0, .bools (ledF p l i))]) () trivial ?_ (fun _ _ => Nat.zero_le _) ?_
  · simp only [ledF]
    simp only [↓EVP0, EVQ0, EVQ1, EVQ2, EVQ3, EVQ4, EVA, EVK, EVF, ↓reduceIte, Nat.reduceEqDiff, Nat.reduceAdd, Nat.reduceSub, Nat.reduceMul, Nat.reduceLT, Nat.reduceLeDiff, reduceCtorEq, Int.reduceToNat, Int.reduceLT, Int.reduceLE, Int.reduceAdd, Int.reduceSub, Int.reduceMul, Int.reduceNeg, Int.reduceEq, Nat.reduceMod, forall_eq_or_imp, forall_eq, forall_const, cond_true, cond_false, decide_true, decide_false, true_imp_iff, implies_true, Int.cast_ofNat_Int, forall_eq']
  intro i _ hi _
  have hll := ledF_len p l i
  have hstep : ledF p l (i + 1) = ledS l (p.cs.getD i default) (ledF p l i) := rfl
  rw [hstep]
  have hfin : i = p.cs.length → ledF p l i = ledF p l p.cs.length := fun e => by rw [e]
  generalize ledF p l i = m at hll hfin ⊢
  unfold lb37_1
  simp only [↓EVP0, EVQ0, EVQ1, EVQ2, EVQ3, EVQ4, EVA, EVK, EVF, ↓reduceIte, Nat.reduceEqDiff, Nat.reduceAdd, Nat.reduceSub, Nat.reduceMul, Nat.reduceLT, Nat.reduceLeDiff, reduceCtorEq, Int.reduceToNat, Int.reduceLT, Int.reduceLE, Int.reduceAdd, Int.reduceSub, Int.reduceMul, Int.reduceNeg, Int.reduceEq, Nat.reduceMod, forall_eq_or_imp, forall_eq, forall_const, cond_true, cond_false, decide_true, decide_false, true_imp_iff, implies_true, Int.cast_ofNat_Int, forall_eq']
  refine ⟨fun hg => ?_, fun hg => ?_⟩
  · have hi2 : i < p.cs.length := by simpa using hg
    have hcm : (p.cs.getD i default) ∈ p.cs := by rw [List.getD_eq_getElem?_getD, List.getElem?_eq_getElem hi2]; exact List.getElem_mem hi2
    obtain ⟨hca, hcb⟩ := hV.cab _ hcm
    generalize p.cs.getD i default = c at hca hcb ⊢
    have hmem : ∀ x, inN p.ns.length x → -1 ≤ l.getD x.toNat 0 ∧ l.getD x.toNat 0 < p.ns.length := by
      intro x hx
      have hlt : x.toNat < l.length := by unfold inN at hx; omega
      have := List.all_eq_true.1 hR (l.getD x.toNat 0) (by rw [List.getD_eq_getElem?_getD, List.getElem?_eq_getElem hlt]; exact List.getElem_mem hlt)
      simpa [rngB] using this
    have ma := hmem _ hca
    have mb := hmem _ hcb
    have n16 := hV.n16
    unfold inN at hca hcb
    have hi64 : In64 ((i : Int) + 1) := by have := hV.c32; unfold In64; omega
    refine ⟨⟨by omega, by omega⟩, ⟨by omega, by omega⟩, ⟨by omega, by omega⟩, by unfold In64; omega, fun h1 => ?_, fun h1 => ⟨⟨by omega, by omega⟩, ⟨by omega, by omega⟩, by unfold In64; omega, fun h2 => ?_, fun h2 => ?_⟩⟩
    · exact ⟨⟨by omega, by omega⟩, by omega, hi64, hi2, (), by unfold ledS lvl; rw [h1]; rfl⟩
    · exact ⟨⟨by omega, by omega⟩, by omega, hi64, hi2, (), by unfold ledS lvl; rw [h1, h2]; rfl⟩
    · exact ⟨hi64, hi2, (), by unfold ledS lvl; rw [h1, h2]; rfl⟩
  have hii : i = p.cs.length := by simp at hg; omega
  have hm := hfin hii
  intro _
  refine lwp_for (α := Unit) l.length (fun i _ => (List.range i).all (ledOk p l) = true) (fun i _ => [(8, .sl 2 0 1 0 p.ns.length), (99, .rsl 1 l.length (intsF l)), (100, .sc (.int .i64 l.length)), (101, .sc (.int .i64 i))])
    (fun i _ => [(0, .box [.rsl 3 p.ns.length (ndsF p.ns), .rsl 6 p.cs.length (cbsF p.cs)]), (0, .box [.rsl 1 l.length (intsF l)]), (0, .bools m)]) () rfl ?_ (fun _ _ => Nat.zero_le _) ?_
  · simp only [↓EVP0, EVQ0, EVQ1, EVQ2, EVQ3, EVQ4, EVA, EVK, EVF, ↓reduceIte, Nat.reduceEqDiff, Nat.reduceAdd, Nat.reduceSub, Nat.reduceMul, Nat.reduceLT, Nat.reduceLeDiff, reduceCtorEq, Int.reduceToNat, Int.reduceLT, Int.reduceLE, Int.reduceAdd, Int.reduceSub, Int.reduceMul, Int.reduceNeg, Int.reduceEq, Nat.reduceMod, forall_eq_or_imp, forall_eq, forall_const, cond_true, cond_false, decide_true, decide_false, true_imp_iff, implies_true, Int.cast_ofNat_Int, forall_eq']
  intro i _ hi hx
  unfold lb37_0
  simp only [↓EVP0, EVQ0, EVQ1, EVQ2, EVQ3, EVQ4, EVA, EVK, EVF, ↓reduceIte, Nat.reduceEqDiff, Nat.reduceAdd, Nat.reduceSub, Nat.reduceMul, Nat.reduceLT, Nat.reduceLeDiff, reduceCtorEq, Int.reduceToNat, Int.reduceLT, Int.reduceLE, Int.reduceAdd, Int.reduceSub, Int.reduceMul, Int.reduceNeg, Int.reduceEq, Nat.reduceMod, forall_eq_or_imp, forall_eq, forall_const, cond_true, cond_false, decide_true, decide_false, true_imp_iff, implies_true, Int.cast_ofNat_Int, forall_eq']
  have hO : ∀ b, (List.range l.length).all (ledOk p l) = b → ordB p l = b := fun b h => by
    unfold ordB; rw [h, hR, hC, hv, hlen]; simp
  refine ⟨fun hg => ?_, fun hg => ?_⟩
  · have hi2 : i < l.length := by simpa using hg
    have hlo : ledOk p l i = !(decide (0 < l.getD i 0) && !m.getD i false) := by unfold ledOk; rw [hm]
    refine ⟨⟨by omega, by omega⟩, fun _ => ⟨by omega, by omega⟩, fun _ => by omega, fun h => ?_, fun h => ?_⟩
    · symm
      apply hO
      rw [List.all_eq_false]
      refine ⟨i, List.mem_range.2 hi2, ?_⟩
      rw [hlo]; revert h; cases decide (0 < l.getD i 0) <;> cases m.getD i false <;> simp
    · refine ⟨by unfold In64; omega, hi2, (), ?_⟩
      have : ledOk p l i = true := by rw [hlo]; revert h; cases decide (0 < l.getD i 0) <;> cases m.getD i false <;> simp
      rw [List.all_append, hx]; simp [this]
  · have hii : i = l.length := by simp at hg; omega
    subst hii
    exact (hO true hx).symm
end Go.Proofs.YtcdepkflghcjpaaDoor
namespace Go.Proofs.YtcdepkflghcjpaaDoor
set_option linter.unusedSimpArgs false
set_option linter.unusedVariables false
open Go.RowKit

structure OrdVal (p : Pl) (l : List Int) : Prop where
  v : validE p = 0
  len : l.length = p.ns.length
  rng : ∀ x, inN p.ns.length x → -1 ≤ lvl l x ∧ lvl l x < p.ns.length
theorem ord_of {p : Pl} {l : List Int} (h : ordB p l = true) : OrdVal p l := by
  unfold ordB at h
  simp only [Bool.and_eq_true, decide_eq_true_eq] at h
  obtain ⟨⟨h1, h2⟩, h3, _, _⟩ := h
  refine ⟨h1, h2, fun x hx => ?_⟩
  have hlt : x.toNat < l.length := by unfold inN at hx; omega
  have := List.all_eq_true.1 h3 (l.getD x.toNat 0) (by rw [List.getD_eq_getElem?_getD, List.getElem?_eq_getElem hlt]; exact List.getElem_mem hlt)
  simpa [rngB, lvl] using this
theorem cs_mem {p : Pl} {i : Int} (h0 : 0 ≤ i) (h1 : i < p.cs.length) : p.cs.getD i.toNat default ∈ p.cs := by
  have : i.toNat < p.cs.length := by omega
  rw [List.getD_eq_getElem?_getD, List.getElem?_eq_getElem this]; exact List.getElem_mem this
def otherE (c : Cb) (x : Int) : Int := bif decide (c.a = x) then c.b else bif decide (c.b = x) then c.a else -1
theorem ev_other (c : Cb) (x : Int) : Ev Tryd.prog 75 [.agg (cbL c), .sc (.int .i64 x)] (.sc (.int .i64 (otherE c x))) := by
  unfold cbL
  refine ev_fn Tryd.func75 comp75 (show 2 ≤ Tryd.f75.ntmps by decide) ?_; unfold cf75 rf75; simp only [↓EVP0, EVQ0, EVQ1, EVQ2, EVQ3, EVQ4, EVA, EVK, EVF, ↓reduceIte, Nat.reduceEqDiff, Nat.reduceAdd, Nat.reduceSub, Nat.reduceMul, Nat.reduceLT, Nat.reduceLeDiff, reduceCtorEq, Int.reduceToNat, Int.reduceLT, Int.reduceLE, Int.reduceAdd, Int.reduceSub, Int.reduceMul, Int.reduceNeg, Int.reduceEq, Nat.reduceMod, forall_eq_or_imp, forall_eq, forall_const, cond_true, cond_false, decide_true, decide_false, true_imp_iff, implies_true, Int.cast_ofNat_Int, forall_eq']
  unfold otherE
  refine ⟨fun h => by rw [h]; rfl, fun h => ⟨fun h2 => by rw [h, h2]; rfl, fun h2 => by rw [h, h2]; rfl⟩⟩
theorem ev_Other (p : Pl) (i x : Int) (h0 : 0 ≤ i) (h1 : i < p.cs.length) : Ev Tryd.prog 44 [plV p, .sc (.int .i64 i), .sc (.int .i64 x)] (.sc (.int .i64 (otherE (p.cs.getD i.toNat default) x))) := by
  have h27 := ev_other
  unfold plV cbL at *
  refine ev_fn Tryd.func44 comp44 (show 3 ≤ Tryd.f44.ntmps by decide) ?_; unfold cf44 rf44; simp only [↓EVP0, EVQ0, EVQ1, EVQ2, EVQ3, EVQ4, EVA, EVK, EVF, ↓reduceIte, Nat.reduceEqDiff, Nat.reduceAdd, Nat.reduceSub, Nat.reduceMul, Nat.reduceLT, Nat.reduceLeDiff, reduceCtorEq, Int.reduceToNat, Int.reduceLT, Int.reduceLE, Int.reduceAdd, Int.reduceSub, Int.reduceMul, Int.reduceNeg, Int.reduceEq, Nat.reduceMod, forall_eq_or_imp, forall_eq, forall_const, cond_true, cond_false, decide_true, decide_false, true_imp_iff, implies_true, Int.cast_ofNat_Int, forall_eq']
  refine ⟨⟨h0, h1⟩, callK_ro (h27 _ _) ?_ ?_⟩
  · simp only [↓EVP0, EVQ0, EVQ1, EVQ2, EVQ3, EVQ4, EVA, EVK, EVF, ↓reduceIte, Nat.reduceEqDiff, Nat.reduceAdd, Nat.reduceSub, Nat.reduceMul, Nat.reduceLT, Nat.reduceLeDiff, reduceCtorEq, Int.reduceToNat, Int.reduceLT, Int.reduceLE, Int.reduceAdd, Int.reduceSub, Int.reduceMul, Int.reduceNeg, Int.reduceEq, Nat.reduceMod, forall_eq_or_imp, forall_eq, forall_const, cond_true, cond_false, decide_true, decide_false, true_imp_iff, implies_true, Int.cast_ofNat_Int, forall_eq']
  simp only [↓EVP0, EVQ0, EVQ1, EVQ2, EVQ3, EVQ4, EVA, EVK, EVF, ↓reduceIte, Nat.reduceEqDiff, Nat.reduceAdd, Nat.reduceSub, Nat.reduceMul, Nat.reduceLT, Nat.reduceLeDiff, reduceCtorEq, Int.reduceToNat, Int.reduceLT, Int.reduceLE, Int.reduceAdd, Int.reduceSub, Int.reduceMul, Int.reduceNeg, Int.reduceEq, Nat.reduceMod, forall_eq_or_imp, forall_eq, forall_const, cond_true, cond_false, decide_true, decide_false, true_imp_iff, implies_true, Int.cast_ofNat_Int, forall_eq']
end Go.Proofs.YtcdepkflghcjpaaDoor
namespace Go.Proofs.YtcdepkflghcjpaaDoor
set_option linter.unusedSimpArgs false
set_option linter.unusedVariables false
open Go.RowKit

theorem lvl_set {m : List Int} {x y : Int} {n : Nat} (hl : m.length = n) (hx : inN n x) (hy : inN n y) (v : Int) : lvl (m.set y.toNat v) x = if x = y then v else lvl m x := by
  unfold lvl
  unfold inN at hx hy
  by_cases e : x = y
  · subst e
    rw [if_pos rfl, List.getD_eq_getElem?_getD, List.getElem?_set_self (by omega)]; rfl
  · rw [if_neg e, List.getD_eq_getElem?_getD, List.getElem?_set_ne (by omega), ← List.getD_eq_getElem?_getD]

def Better (n : Nat) (m m' : List Int) : Prop := ∀ x (k : Int), inN n x → 0 ≤ lvl m x → lvl m x ≤ k → 0 ≤ lvl m' x ∧ lvl m' x ≤ k
theorem Better.refl (n : Nat) (m : List Int) : Better n m m := fun _ _ _ h1 h2 => ⟨h1, h2⟩
theorem Better.trans {n : Nat} {m m' m2 : List Int} (a : Better n m m') (b : Better n m' m2) : Better n m m2 := fun x k hx h1 h2 => b x k hx (a x k hx h1 h2).1 (a x k hx h1 h2).2
end Go.Proofs.YtcdepkflghcjpaaDoor
namespace Go.Proofs.YtcdepkflghcjpaaDoor
set_option linter.unusedSimpArgs false
set_option linter.unusedVariables false
open Go.RowKit

end Go.Proofs.YtcdepkflghcjpaaDoor
namespace Go.Proofs.YtcdepkflghcjpaaDoor
set_option linter.unusedSimpArgs false
set_option linter.unusedVariables false
open Go.RowKit
set_option maxRecDepth 20000

theorem condT (x y : Bool) : (bif x then true else y) = (x || y) := by cases x <;> rfl
theorem condF (x y : Bool) : (bif x then y else false) = (x && y) := by cases x <;> rfl
theorem ev_refAbove (l : List Int) (a b : Int) : Ev Tryd.prog 76 [intsV l, .sc (.int .i64 a), .sc (.int .i64 b)] (.sc (.bool (aboveB l a b))) := by
  unfold intsV
  refine ev_fn Tryd.func76 comp76 (show 3 ≤ Tryd.f76.ntmps by decide) ?_; unfold cf76 rf76; simp only [↓EVP0, EVQ0, EVQ1, EVQ2, EVQ3, EVQ4, EVA, EVK, EVF, ↓reduceIte, Nat.reduceEqDiff, Nat.reduceAdd, Nat.reduceSub, Nat.reduceMul, Nat.reduceLT, Nat.reduceLeDiff, reduceCtorEq, Int.reduceToNat, Int.reduceLT, Int.reduceLE, Int.reduceAdd, Int.reduceSub, Int.reduceMul, Int.reduceNeg, Int.reduceEq, Nat.reduceMod, forall_eq_or_imp, forall_eq, forall_const, cond_true, cond_false, decide_true, decide_false, true_imp_iff, implies_true, Int.cast_ofNat_Int, forall_eq']
  have hA : aboveB l a b = (((decide (0 ≤ a) && (decide (0 ≤ b) && (decide (a < l.length) && decide (b < l.length)))) && (decide (0 ≤ l.getD a.toNat 0) && decide (0 ≤ l.getD b.toNat 0))) && (decide (l.getD a.toNat 0 < l.getD b.toNat 0) || (decide (l.getD a.toNat 0 = l.getD b.toNat 0) && decide (a < b)))) := by
    unfold aboveB hasB
    rw [Bool.eq_iff_iff]
    simp only [Bool.or_eq_true, Bool.and_eq_true, decide_eq_true_eq]
    omega
  rw [hA]
  simp only [condT, condF]
  generalize l.getD a.toNat 0 = x
  generalize l.getD b.toNat 0 = y
  refine ⟨fun hg => ?_, fun hg => ?_, fun hg => ?_, fun hg => ?_⟩
  · simp at hg; omega
  · simp at hg; omega
  · symm
    simp only [Bool.or_eq_true, decide_eq_true_eq] at hg
    rw [Bool.eq_false_iff]
    simp only [ne_eq, Bool.or_eq_true, Bool.and_eq_true, decide_eq_true_eq]
    omega
  · simp at hg
    refine ⟨by omega, by omega, fun _ => by omega, fun _ => by omega, ?_⟩
    rw [Bool.eq_iff_iff]
    simp only [Bool.or_eq_true, Bool.and_eq_true, decide_eq_true_eq]
    omega
def hitF (l : List Int) (i : Nat) (c : Cb) : Bool := decide (0 ≤ otherE c i) && decide (lvl l (otherE c i) = l.getD i 0 - 1)
def fndF (p : Pl) (l : List Int) (i : Nat) : Nat → Bool
  | 0 => decide (l.getD i 0 < 1)
  | k + 1 => bif hitF l i (p.cs.getD k default) then true else fndF p l i k
def fitsB (p : Pl) (l : List Int) : Bool :=
  decide (l.length = p.ns.length) && ((List.range l.length).all (fun i => rngB l.length (l.getD i 0) && fndF p l i p.cs.length) && decide (l.countP isZ = 1))
theorem ev_fits (p : Pl) (hv : validE p = 0) (l : List Int) : Ev Tryd.prog 41 [plV p, intsV l] (.sc (.bool (fitsB p l))) := by
  have hV := valid_of hv
  have h27 := ev_other
  have n16 := hV.n16
  have c32 := hV.c32
  unfold plV intsV cbL at *
  refine ev_fn Tryd.func41 comp41 (show 2 ≤ Tryd.f41.ntmps by decide) ?_; unfold cf41 rf41; simp only [↓EVP0, EVQ0, EVQ1, EVQ2, EVQ3, EVQ4, EVA, EVK, EVF, ↓reduceIte, Nat.reduceEqDiff, Nat.reduceAdd, Nat.reduceSub, Nat.reduceMul, Nat.reduceLT, Nat.reduceLeDiff, reduceCtorEq, Int.reduceToNat, Int.reduceLT, Int.reduceLE, Int.reduceAdd, Int.reduceSub, Int.reduceMul, Int.reduceNeg, Int.reduceEq, Nat.reduceMod, forall_eq_or_imp, forall_eq, forall_const, cond_true, cond_false, decide_true, decide_false, true_imp_iff, implies_true, Int.cast_ofNat_Int, forall_eq']
  intro _ _
  refine ⟨fun hg => ?_, fun hg => ?_⟩
  · have : decide (l.length = p.ns.length) = false := by revert hg; simp; omega
    unfold fitsB; rw [this]; rfl
  have hlen : l.length = p.ns.length := by revert hg; simp; omega
  refine lwp_for (α := Unit) l.length (fun i _ => (List.range i).all (fun i => rngB l.length (l.getD i 0) && fndF p l i p.cs.length) = true)
    (fun i _ => [(1, .rsl 1 l.length (intsF l)), (2, .ptr 0 0 0 0 0), (5, .sc (.int .i64 ((l.take i).countP isZ))), (6, .sc (.int .i64 i))])
    (fun i _ => [(0, .box [.rsl 3 p.ns.length (ndsF p.ns), .rsl 6 p.cs.length (cbsF p.cs)])]) () rfl ?_ (fun _ _ => Nat.zero_le _) ?_
  · simp only [↓EVP0, EVQ0, EVQ1, EVQ2, EVQ3, EVQ4, EVA, EVK, EVF, ↓reduceIte, Nat.reduceEqDiff, Nat.reduceAdd, Nat.reduceSub, Nat.reduceMul, Nat.reduceLT, Nat.reduceLeDiff, reduceCtorEq, Int.reduceToNat, Int.reduceLT, Int.reduceLE, Int.reduceAdd, Int.reduceSub, Int.reduceMul, Int.reduceNeg, Int.reduceEq, Nat.reduceMod, forall_eq_or_imp, forall_eq, forall_const, cond_true, cond_false, decide_true, decide_false, true_imp_iff, implies_true, Int.cast_ofNat_Int, forall_eq']
    rfl
  intro i _ hi hx
  have hfin : i = l.length → (List.range l.length).all (fun i => rngB l.length (l.getD i 0) && fndF p l i p.cs.length) = true := fun e => by rw [← e]; rw [← e] at hx; exact hx
  have hF : i < l.length → (rngB l.length (l.getD i 0) && fndF p l i p.cs.length) = false → fitsB p l = false := by
    intro hi2 h
    have : (List.range l.length).all (fun i => rngB l.length (l.getD i 0) && fndF p l i p.cs.length) = false := by
      rw [List.all_eq_false]
      exact ⟨i, List.mem_range.2 hi2, by rw [h]; simp⟩
    unfold fitsB; rw [this]; simp
  unfold lb41_1
  simp only [↓EVP0, EVQ0, EVQ1, EVQ2, EVQ3, EVQ4, EVA, EVK, EVF, ↓reduceIte, Nat.reduceEqDiff, Nat.reduceAdd, Nat.reduceSub, Nat.reduceMul, Nat.reduceLT, Nat.reduceLeDiff, reduceCtorEq, Int.reduceToNat, Int.reduceLT, Int.reduceLE, Int.reduceAdd, Int.reduceSub, Int.reduceMul, Int.reduceNeg, Int.reduceEq, Nat.reduceMod, forall_eq_or_imp, forall_eq, forall_const, cond_true, cond_false, decide_true, decide_false, true_imp_iff, implies_true, Int.cast_ofNat_Int, forall_eq']
  intro _
  refine ⟨fun hg => ?_, fun hg => ?_⟩
  · have hi2 : i < l.length := by simpa using hg
    have hcnt : (l.take (i + 1)).countP isZ = (l.take i).countP isZ + (if isZ (l.getD i 0) then 1 else 0) := by
      rw [take_succ_getD 0 l i hi2, List.countP_append, List.countP_singleton]
    have hcle : (l.take i).countP isZ ≤ i := Nat.le_trans List.countP_le_length (by simp; omega)
    have hbi : (0 : Int) ≤ i ∧ (i : Int) < l.length := by omega
    refine ⟨hbi, fun _ => hbi, fun hr => ?_, fun hr => ?_⟩
    · refine (hF hi2 ?_).symm
      have : rngB l.length (l.getD i 0) = false := by unfold rngB; simp at hr ⊢; omega
      rw [this]; rfl
    have hR : rngB l.length (l.getD i 0) = true := by unfold rngB; simp at hr ⊢; omega
    have hR2 := hR
    unfold rngB at hR2
    simp at hR2
    have hz2 : ∀ b, decide (l.getD i 0 = 0) = b → isZ (l.getD i 0) = b := fun b h => h
    refine lwp_join (α := Unit) (fun _ => True) (fun _ => [(1, .rsl 1 l.length (intsF l)), (2, .ptr 0 0 0 0 0), (5, .sc (.int .i64 ((l.take (i + 1)).countP isZ))), (6, .sc (.int .i64 i))])
      (fun _ => [(0, .box [.rsl 3 p.ns.length (ndsF p.ns), .rsl 6 p.cs.length (cbsF p.cs)])]) (fun _ => Nat.zero_le _) ?_ ?_
    · simp only [↓EVP0, EVQ0, EVQ1, EVQ2, EVQ3, EVQ4, EVA, EVK, EVF, ↓reduceIte, Nat.reduceEqDiff, Nat.reduceAdd, Nat.reduceSub, Nat.reduceMul, Nat.reduceLT, Nat.reduceLeDiff, reduceCtorEq, Int.reduceToNat, Int.reduceLT, Int.reduceLE, Int.reduceAdd, Int.reduceSub, Int.reduceMul, Int.reduceNeg, Int.reduceEq, Nat.reduceMod, forall_eq_or_imp, forall_eq, forall_const, cond_true, cond_false, decide_true, decide_false, true_imp_iff, implies_true, Int.cast_ofNat_Int, forall_eq']
      refine ⟨hbi, fun hz => ⟨by unfold In64; omega, (), ?_⟩, fun hz => ⟨(), ?_⟩⟩
      · rw [hcnt, hz2 _ hz, if_pos rfl]; omega
      · rw [hcnt, hz2 _ hz]; simp
    rintro _ _
    simp only [↓EVP0, EVQ0, EVQ1, EVQ2, EVQ3, EVQ4, EVA, EVK, EVF, ↓reduceIte, Nat.reduceEqDiff, Nat.reduceAdd, Nat.reduceSub, Nat.reduceMul, Nat.reduceLT, Nat.reduceLeDiff, reduceCtorEq, Int.reduceToNat, Int.reduceLT, Int.reduceLE, Int.reduceAdd, Int.reduceSub, Int.reduceMul, Int.reduceNeg, Int.reduceEq, Nat.reduceMod, forall_eq_or_imp, forall_eq, forall_const, cond_true, cond_false, decide_true, decide_false, true_imp_iff, implies_true, Int.cast_ofNat_Int, forall_eq']
    refine ⟨hbi, ?_⟩
    refine lwp_for (α := Unit) p.cs.length (fun j _ => True) (fun j _ => [(1, .rsl 1 l.length (intsF l)), (2, .ptr 0 0 0 0 0), (5, .sc (.int .i64 ((l.take (i + 1)).countP isZ))), (6, .sc (.int .i64 i)), (7, .sc (.bool (fndF p l i j))), (8, .sc (.int .i64 j))])
      (fun j _ => [(0, .box [.rsl 3 p.ns.length (ndsF p.ns), .rsl 6 p.cs.length (cbsF p.cs)])]) () trivial ?_ (fun _ _ => Nat.zero_le _) ?_
    · simp only [↓EVP0, EVQ0, EVQ1, EVQ2, EVQ3, EVQ4, EVA, EVK, EVF, ↓reduceIte, Nat.reduceEqDiff, Nat.reduceAdd, Nat.reduceSub, Nat.reduceMul, Nat.reduceLT, Nat.reduceLeDiff, reduceCtorEq, Int.reduceToNat, Int.reduceLT, Int.reduceLE, Int.reduceAdd, Int.reduceSub, Int.reduceMul, Int.reduceNeg, Int.reduceEq, Nat.reduceMod, forall_eq_or_imp, forall_eq, forall_const, cond_true, cond_false, decide_true, decide_false, true_imp_iff, implies_true, Int.cast_ofNat_Int, forall_eq']
      simp [fndF]
    intro j _ hj _
    have hnx : fndF p l i (j + 1) = bif hitF l i (p.cs.getD j default) then true else fndF p l i j := rfl
    have hfj : j = p.cs.length → fndF p l i j = fndF p l i p.cs.length := fun e => by rw [e]
    rw [hnx]
    generalize fndF p l i j = fj at hfj ⊢
    unfold lb41_0
    simp only [↓EVP0, EVQ0, EVQ1, EVQ2, EVQ3, EVQ4, EVA, EVK, EVF, ↓reduceIte, Nat.reduceEqDiff, Nat.reduceAdd, Nat.reduceSub, Nat.reduceMul, Nat.reduceLT, Nat.reduceLeDiff, reduceCtorEq, Int.reduceToNat, Int.reduceLT, Int.reduceLE, Int.reduceAdd, Int.reduceSub, Int.reduceMul, Int.reduceNeg, Int.reduceEq, Nat.reduceMod, forall_eq_or_imp, forall_eq, forall_const, cond_true, cond_false, decide_true, decide_false, true_imp_iff, implies_true, Int.cast_ofNat_Int, forall_eq']
    intro _
    refine ⟨fun hg => ?_, fun hg => ?_⟩
    · have hj2 : j < p.cs.length := by simpa using hg
      have hcm : (p.cs.getD j default) ∈ p.cs := by rw [List.getD_eq_getElem?_getD, List.getElem?_eq_getElem hj2]; exact List.getElem_mem hj2
      obtain ⟨hca, hcb⟩ := hV.cab _ hcm
      refine ⟨⟨by omega, by omega⟩, callK_ro (h27 _ _) ?_ ?_⟩
      · simp only [↓EVP0, EVQ0, EVQ1, EVQ2, EVQ3, EVQ4, EVA, EVK, EVF, ↓reduceIte, Nat.reduceEqDiff, Nat.reduceAdd, Nat.reduceSub, Nat.reduceMul, Nat.reduceLT, Nat.reduceLeDiff, reduceCtorEq, Int.reduceToNat, Int.reduceLT, Int.reduceLE, Int.reduceAdd, Int.reduceSub, Int.reduceMul, Int.reduceNeg, Int.reduceEq, Nat.reduceMod, forall_eq_or_imp, forall_eq, forall_const, cond_true, cond_false, decide_true, decide_false, true_imp_iff, implies_true, Int.cast_ofNat_Int, forall_eq']
      simp only [↓EVP0, EVQ0, EVQ1, EVQ2, EVQ3, EVQ4, EVA, EVK, EVF, ↓reduceIte, Nat.reduceEqDiff, Nat.reduceAdd, Nat.reduceSub, Nat.reduceMul, Nat.reduceLT, Nat.reduceLeDiff, reduceCtorEq, Int.reduceToNat, Int.reduceLT, Int.reduceLE, Int.reduceAdd, Int.reduceSub, Int.reduceMul, Int.reduceNeg, Int.reduceEq, Nat.reduceMod, forall_eq_or_imp, forall_eq, forall_const, cond_true, cond_false, decide_true, decide_false, true_imp_iff, implies_true, Int.cast_ofNat_Int, forall_eq']
      generalize p.cs.getD j default = c at hca hcb ⊢
      have hoth : otherE c i = -1 ∨ inN p.ns.length (otherE c i) := by
        unfold otherE
        cases decide (c.a = ↑i)
        · cases decide (c.b = ↑i)
          · exact .inl rfl
          · exact .inr hca
        · exact .inr hcb
      unfold inN at hoth
      have hj64 : In64 ((j : Int) + 1) := by unfold In64; omega
      have hH : (bif decide (0 ≤ otherE c ↑i) then decide (l.getD (otherE c ↑i).toNat 0 = l.getD i 0 - 1) else false) = hitF l i c := by
        unfold hitF lvl; rw [condF]
      rw [hH]
      refine ⟨fun h => by simp at h; omega, fun _ => hbi, fun _ => by have := hr; simp at this; unfold In64; rw [List.getD_eq_getElem?_getD]; omega, fun h => ⟨hj64, hj2, (), by rw [h]; rfl⟩, fun h => ⟨hj64, hj2, (), by rw [h]; rfl⟩⟩
    · have hjj : j = p.cs.length := by simp at hg; omega
      have hF2 := hfj hjj
      refine ⟨fun h => ?_, fun h => ⟨by unfold In64; omega, hi2, (), ?_⟩⟩
      · refine (hF hi2 ?_).symm
        rw [← hF2, show fj = false by simpa using h, Bool.and_false]
      · rw [List.all_append, hx]
        simp only [List.all_cons, List.all_nil, Bool.and_true, Bool.true_and]
        rw [hR, ← hF2, show fj = true by simpa using h]; rfl
  · have hii : i = l.length := by simp at hg; omega
    have h1 := hfin hii
    unfold fitsB
    rw [h1, decide_eq_true hlen, hii, List.take_length]
    simp only [Bool.true_and]
    rw [Bool.eq_iff_iff]
    simp only [decide_eq_true_eq]
    omega
end Go.Proofs.YtcdepkflghcjpaaDoor
namespace Go.Proofs.YtcdepkflghcjpaaDoor
set_option linter.unusedSimpArgs false
set_option linter.unusedVariables false
open Go.RowKit
set_option maxRecDepth 20000

theorem fndF_iff (p : Pl) (l : List Int) (i k : Nat) : fndF p l i k = true ↔ l.getD i 0 < 1 ∨ ∃ j, j < k ∧ hitF l i (p.cs.getD j default) = true := by
  induction k with
  | zero => simp [fndF]
  | succ k ih =>
    simp only [fndF, condT, Bool.or_eq_true, ih]
    constructor
    · rintro (h | h | ⟨j, hj, h⟩)
      · exact .inr ⟨k, by omega, h⟩
      · exact .inl h
      · exact .inr ⟨j, by omega, h⟩
    · rintro (h | ⟨j, hj, h⟩)
      · exact .inr (.inl h)
      · by_cases e : j = k
        · subst e; exact .inl h
        · exact .inr (.inr ⟨j, by omega, h⟩)
theorem getD_setT {m : List Bool} {x i : Nat} (hx : x < m.length) : (m.set x true).getD i false = true ↔ i = x ∨ m.getD i false = true := by
  by_cases e : i = x
  · subst e
    rw [List.getD_eq_getElem?_getD, List.getElem?_set_self hx]; simp
  · rw [List.getD_eq_getElem?_getD, List.getElem?_set_ne (fun h => e h.symm), ← List.getD_eq_getElem?_getD]
    simp [e]
theorem ledF_iff {p : Pl} {l : List Int} (hC : ∀ c, c ∈ p.cs → inN p.ns.length c.a ∧ inN p.ns.length c.b) (i k : Nat) (hk : k ≤ p.cs.length) :
    (ledF p l k).getD i false = true ↔ ∃ j, j < k ∧ ((lvl l (p.cs.getD j default).a = lvl l (p.cs.getD j default).b - 1 ∧ (p.cs.getD j default).b = i) ∨ (lvl l (p.cs.getD j default).b = lvl l (p.cs.getD j default).a - 1 ∧ (p.cs.getD j default).a = i)) := by
  induction k with
  | zero =>
    simp only [ledF, List.getD_eq_getElem?_getD, List.getElem?_replicate]
    constructor
    · intro h; split at h <;> simp at h
    · rintro ⟨j, hj, _⟩; omega
  | succ k ih =>
    have ih := ih (by omega)
    have hm := ledF_len p l k
    have hcm : (p.cs.getD k default) ∈ p.cs := by rw [List.getD_eq_getElem?_getD, List.getElem?_eq_getElem (by omega)]; exact List.getElem_mem _
    obtain ⟨ha, hb⟩ := hC _ hcm
    unfold inN at ha hb
    have key : (ledF p l (k + 1)).getD i false = true ↔ ((lvl l (p.cs.getD k default).a = lvl l (p.cs.getD k default).b - 1 ∧ (p.cs.getD k default).b = i) ∨ (lvl l (p.cs.getD k default).b = lvl l (p.cs.getD k default).a - 1 ∧ (p.cs.getD k default).a = i)) ∨ (ledF p l k).getD i false = true := by
      simp only [ledF, ledS]
      by_cases h1 : lvl l (p.cs.getD k default).a = lvl l (p.cs.getD k default).b - 1
      · rw [decide_eq_true h1, cond_true, getD_setT (by omega)]
        constructor
        · rintro (h | h)
          · exact .inl (.inl ⟨h1, by omega⟩)
          · exact .inr h
        · rintro ((⟨_, h⟩ | ⟨h2, _⟩) | h)
          · exact .inl (by omega)
          · omega
          · exact .inr h
      · rw [decide_eq_false h1, cond_false]
        by_cases h2 : lvl l (p.cs.getD k default).b = lvl l (p.cs.getD k default).a - 1
        · rw [decide_eq_true h2, cond_true, getD_setT (by omega)]
          constructor
          · rintro (h | h)
            · exact .inl (.inr ⟨h2, by omega⟩)
            · exact .inr h
          · rintro ((⟨h3, _⟩ | ⟨_, h⟩) | h)
            · exact absurd h3 h1
            · exact .inl (by omega)
            · exact .inr h
        · rw [decide_eq_false h2, cond_false]
          constructor
          · exact .inr
          · rintro ((⟨h3, _⟩ | ⟨h3, _⟩) | h)
            · exact absurd h3 h1
            · exact absurd h3 h2
            · exact h
    rw [key, ih]
    constructor
    · rintro (h | ⟨j, hj, h⟩)
      · exact ⟨k, by omega, h⟩
      · exact ⟨j, by omega, h⟩
    · rintro ⟨j, hj, h⟩
      by_cases e : j = k
      · subst e; exact .inl h
      · exact .inr ⟨j, by omega, h⟩
theorem hitF_iff {n : Nat} {l : List Int} {i : Nat} {c : Cb} (ha : inN n c.a) (hb : inN n c.b) : hitF l i c = true ↔ (lvl l c.a = lvl l c.b - 1 ∧ c.b = i) ∨ (lvl l c.b = lvl l c.a - 1 ∧ c.a = i) := by
  unfold inN at ha hb
  have hl : l.getD i 0 = lvl l (i : Int) := rfl
  unfold hitF otherE
  rw [hl]
  by_cases h1 : c.a = i
  · rw [decide_eq_true h1, cond_true]
    simp only [Bool.and_eq_true, decide_eq_true_eq]
    constructor
    · rintro ⟨_, h⟩; exact .inr ⟨by rw [h1]; exact h, h1⟩
    · rintro (⟨h2, h3⟩ | ⟨h2, _⟩)
      · rw [h1, h3] at h2; omega
      · exact ⟨hb.1, by rw [h1] at h2; exact h2⟩
  · rw [decide_eq_false h1, cond_false]
    by_cases h2 : c.b = i
    · rw [decide_eq_true h2, cond_true]
      simp only [Bool.and_eq_true, decide_eq_true_eq]
      constructor
      · rintro ⟨_, h⟩; exact .inl ⟨by rw [h2]; exact h, h2⟩
      · rintro (⟨h3, _⟩ | ⟨_, h3⟩)
        · exact ⟨ha.1, by rw [h2] at h3; exact h3⟩
        · exact absurd h3 h1
    · rw [decide_eq_false h2, cond_false]
      simp only [Bool.and_eq_true, decide_eq_true_eq]
      constructor
      · rintro ⟨h, _⟩; omega
      · rintro (⟨_, h⟩ | ⟨_, h⟩)
        · exact absurd h h2
        · exact absurd h h1
theorem fits_ord {p : Pl} (hv : validE p = 0) (l : List Int) : fitsB p l = ordB p l := by
  have hV := valid_of hv
  unfold fitsB ordB
  rw [decide_eq_true hv, Bool.true_and]
  by_cases hl : l.length = p.ns.length
  · rw [decide_eq_true hl, Bool.true_and, Bool.true_and]
    have hfo : ∀ i, i < l.length → fndF p l i p.cs.length = ledOk p l i := by
      intro i hi
      rw [Bool.eq_iff_iff, fndF_iff]
      unfold ledOk
      have h2 := ledF_iff (p := p) (l := l) hV.cab i p.cs.length (Nat.le_refl _)
      have h3 : (∃ j, j < p.cs.length ∧ hitF l i (p.cs.getD j default) = true) ↔ (ledF p l p.cs.length).getD i false = true := by
        rw [h2]
        constructor
        · rintro ⟨j, hj, h⟩
          have hcm : (p.cs.getD j default) ∈ p.cs := by rw [List.getD_eq_getElem?_getD, List.getElem?_eq_getElem hj]; exact List.getElem_mem _
          exact ⟨j, hj, (hitF_iff (hV.cab _ hcm).1 (hV.cab _ hcm).2).1 h⟩
        · rintro ⟨j, hj, h⟩
          have hcm : (p.cs.getD j default) ∈ p.cs := by rw [List.getD_eq_getElem?_getD, List.getElem?_eq_getElem hj]; exact List.getElem_mem _
          exact ⟨j, hj, (hitF_iff (hV.cab _ hcm).1 (hV.cab _ hcm).2).2 h⟩
      rw [h3]
      cases (ledF p l p.cs.length).getD i false
      · simp; omega
      · simp
    rw [Bool.eq_iff_iff]
    simp only [Bool.and_eq_true, List.all_eq_true, List.mem_range, decide_eq_true_eq]
    constructor
    · rintro ⟨h1, h2⟩
      refine ⟨fun x hx => ?_, h2, fun i hi => ?_⟩
      · obtain ⟨i, hi, rfl⟩ := List.getElem_of_mem hx
        have := (h1 i hi).1
        rw [List.getD_eq_getElem?_getD, List.getElem?_eq_getElem hi, hl] at this
        exact this
      · rw [← hfo i hi]; exact (h1 i hi).2
    · rintro ⟨h1, h2, h3⟩
      refine ⟨fun i hi => ⟨?_, ?_⟩, h2⟩
      · rw [List.getD_eq_getElem?_getD, List.getElem?_eq_getElem hi, hl]
        exact h1 _ (List.getElem_mem hi)
      · rw [hfo i hi]; exact h3 i hi
  · rw [decide_eq_false hl]; rfl
end Go.Proofs.YtcdepkflghcjpaaDoor
namespace Go.Proofs.YtcdepkflghcjpaaDoor
set_option linter.unusedSimpArgs false
set_option linter.unusedVariables false
open Go.RowKit
set_option maxRecDepth 20000

theorem ev_rName (s : ByteArray) : Ev Tryd.prog 49 [.sc (.string s)] (.sc (.bool (nameOk s))) := by
  refine ev_fn Tryd.func49 comp49 (show 1 ≤ Tryd.f49.ntmps by decide) ?_; unfold cf49 rf49; simp only [↓EVP0, EVQ0, EVQ1, EVQ2, EVQ3, EVQ4, EVA, EVK, EVF, ↓reduceIte, Nat.reduceEqDiff, Nat.reduceAdd, Nat.reduceSub, Nat.reduceMul, Nat.reduceLT, Nat.reduceLeDiff, reduceCtorEq, Int.reduceToNat, Int.reduceLT, Int.reduceLE, Int.reduceAdd, Int.reduceSub, Int.reduceMul, Int.reduceNeg, Int.reduceEq, Nat.reduceMod, forall_eq_or_imp, forall_eq, forall_const, cond_true, cond_false, decide_true, decide_false, true_imp_iff, implies_true, Int.cast_ofNat_Int, forall_eq']
  refine ⟨fun hg => ?_, fun hg => ?_⟩
  · have : nameOk s = false := by
      simp only [condT, Bool.or_eq_true, decide_eq_true_eq] at hg
      unfold nameOk
      simp; omega
    rw [this]
  have hs : 1 ≤ s.size ∧ s.size ≤ 20 := by
    simp only [condT, Bool.or_eq_false_iff, decide_eq_false_iff_not] at hg
    omega
  refine lwp_for (α := Unit) s.size (fun i _ => nmAll s i = true) (fun i _ => [(0, .sc (.string s)), (3, .sc (.int .i64 i))]) (fun _ _ => []) () rfl ?_ (fun _ _ => Nat.zero_le _) ?_
  · simp only [↓EVP0, EVQ0, EVQ1, EVQ2, EVQ3, EVQ4, EVA, EVK, EVF, ↓reduceIte, Nat.reduceEqDiff, Nat.reduceAdd, Nat.reduceSub, Nat.reduceMul, Nat.reduceLT, Nat.reduceLeDiff, reduceCtorEq, Int.reduceToNat, Int.reduceLT, Int.reduceLE, Int.reduceAdd, Int.reduceSub, Int.reduceMul, Int.reduceNeg, Int.reduceEq, Nat.reduceMod, forall_eq_or_imp, forall_eq, forall_const, cond_true, cond_false, decide_true, decide_false, true_imp_iff, implies_true, Int.cast_ofNat_Int, forall_eq']
  intro i _ hi hx
  unfold lb49_0
  simp only [↓EVP0, EVQ0, EVQ1, EVQ2, EVQ3, EVQ4, EVA, EVK, EVF, ↓reduceIte, Nat.reduceEqDiff, Nat.reduceAdd, Nat.reduceSub, Nat.reduceMul, Nat.reduceLT, Nat.reduceLeDiff, reduceCtorEq, Int.reduceToNat, Int.reduceLT, Int.reduceLE, Int.reduceAdd, Int.reduceSub, Int.reduceMul, Int.reduceNeg, Int.reduceEq, Nat.reduceMod, forall_eq_or_imp, forall_eq, forall_const, cond_true, cond_false, decide_true, decide_false, true_imp_iff, implies_true, Int.cast_ofNat_Int, forall_eq']
  refine ⟨fun hg => ?_, fun hg => ?_⟩
  · have hi2 : i < s.size := by simpa using hg
    have hii : 0 ≤ (i : Int) ∧ i < s.size := ⟨by omega, hi2⟩
    refine ⟨hii, fun _ => hii, hii, fun _ => hii, fun hg => ?_, fun hg => ?_⟩
    · have h1 : nmOk s i = false := by
        simp [nmOk] at hg ⊢
        omega
      have := nmAll_le s h1 hi2
      simp [nameOk, this]
    · have h1 : nmOk s i = true := by
        simp [nmOk] at hg ⊢
        omega
      exact ⟨by unfold In64; omega, hi2, by simp [nmAll, hx, h1]⟩
  · have hi2 : i = s.size := by simp at hg; omega
    subst hi2
    simp [nameOk, hx, hs]
theorem ev_place (p : Pl) (a ap : Int) : Ev Tryd.prog 50 [plV p, .sc (.int .i64 a), .sc (.int .i64 ap)] (.sc (.bool (portOk p a ap))) := by
  unfold plV
  refine ev_fn Tryd.func50 comp50 (show 3 ≤ Tryd.f50.ntmps by decide) ?_; unfold cf50 rf50; simp only [↓EVP0, EVQ0, EVQ1, EVQ2, EVQ3, EVQ4, EVA, EVK, EVF, ↓reduceIte, Nat.reduceEqDiff, Nat.reduceAdd, Nat.reduceSub, Nat.reduceMul, Nat.reduceLT, Nat.reduceLeDiff, reduceCtorEq, Int.reduceToNat, Int.reduceLT, Int.reduceLE, Int.reduceAdd, Int.reduceSub, Int.reduceMul, Int.reduceNeg, Int.reduceEq, Nat.reduceMod, forall_eq_or_imp, forall_eq, forall_const, cond_true, cond_false, decide_true, decide_false, true_imp_iff, implies_true, Int.cast_ofNat_Int, forall_eq']
  refine ⟨fun hg => ?_, ?_⟩
  · simp at hg; omega
  · unfold portOk
    cases decide (0 ≤ a) <;> cases decide (a < p.ns.length) <;> cases decide (0 ≤ ap) <;> simp
theorem nodup_get {α : Type} {l : List α} {i k : Nat} (d : α) (hn : l.Nodup) (hi : i < l.length) (hk : k < i) : l.getD i d ≠ l.getD k d := by
  rw [List.getD_eq_getElem?_getD, List.getD_eq_getElem?_getD, List.getElem?_eq_getElem hi, List.getElem?_eq_getElem (by omega)]
  intro h
  simp only [Option.getD_some] at h
  have := (List.getElem_inj hn).1 h
  omega
theorem mem_take {α : Type} {l : List α} {k : Nat} (d : α) (hk : k ≤ l.length) {x : α} (h : x ∈ l.take k) : ∃ j, j < k ∧ l.getD j d = x := by
  obtain ⟨j, hj, rfl⟩ := List.getElem_of_mem h
  have hj2 : j < k := by simp at hj; omega
  refine ⟨j, hj2, ?_⟩
  rw [List.getElem_take, List.getD_eq_getElem?_getD, List.getElem?_eq_getElem (by omega)]; rfl
def fresh {α : Type} [DecidableEq α] (d : α) (l : List α) (i k : Nat) : Prop := ∀ j, j < k → l.getD i d ≠ l.getD j d
theorem nodup_step {α : Type} [DecidableEq α] {l : List α} {i : Nat} (d : α) (hi : i < l.length) (hn : (l.take i).Nodup) (hf : fresh d l i i) : (l.take (i + 1)).Nodup := by
  rw [take_succ_getD d l i hi, nodup_take]
  refine ⟨hn, fun hm => ?_⟩
  obtain ⟨j, hj, he⟩ := mem_take d (by omega) hm
  exact hf j hj he.symm
theorem nodup_bad {α : Type} [DecidableEq α] {l : List α} {i k : Nat} (d : α) (hi : i < l.length) (hk : k < i) (he : l.getD i d = l.getD k d) : ¬ l.Nodup := fun hn => nodup_get d hn hi hk he
theorem map_getD {p : Pl} {i : Nat} (hi : i < p.ns.length) : (p.ns.map (·.name)).getD i ⟨#[]⟩ = (p.ns.getD i default).name := by
  rw [List.getD_eq_getElem?_getD, List.getElem?_map, List.getD_eq_getElem?_getD, List.getElem?_eq_getElem hi]; rfl
theorem ends_len (l : List Cb) : (endsOf l).length = 2 * l.length := by
  induction l with
  | nil => rfl
  | cons c r ih => simp only [endsOf, List.flatMap_cons, List.length_append, List.length_cons] at ih ⊢; rw [ih]; simp [endsC]; omega
theorem ends_get : ∀ (l : List Cb) (i : Nat), i < l.length → (endsOf l).getD (2 * i) (0, 0) = ((l.getD i default).a, (l.getD i default).ap) ∧ (endsOf l).getD (2 * i + 1) (0, 0) = ((l.getD i default).b, (l.getD i default).bp)
  | [], i, h => by simp at h
  | c :: r, 0, _ => ⟨rfl, rfl⟩
  | c :: r, i + 1, h => by
    have := ends_get r i (by simpa using h)
    have e : endsOf (c :: r) = (c.a, c.ap) :: (c.b, c.bp) :: endsOf r := rfl
    rw [e, show 2 * (i + 1) = 2 * i + 1 + 1 by omega]
    simp only [List.getD_cons_succ]
    exact this
theorem two_split {i j : Nat} (h : j < 2 * (i + 1)) : j < 2 * i ∨ j = 2 * i ∨ j = 2 * i + 1 := by omega
theorem ev_twice (p : Pl) (hN : p.ns.length ≤ 16) (hC : p.cs.length ≤ 32) : Ev Tryd.prog 51 [plV p] (.sc (.bool (repOk p))) := by
  unfold plV
  refine ev_fn Tryd.func51 comp51 (show 1 ≤ Tryd.f51.ntmps by decide) ?_; unfold cf51 rf51; simp only [↓EVP0, EVQ0, EVQ1, EVQ2, EVQ3, EVQ4, EVA, EVK, EVF, ↓reduceIte, Nat.reduceEqDiff, Nat.reduceAdd, Nat.reduceSub, Nat.reduceMul, Nat.reduceLT, Nat.reduceLeDiff, reduceCtorEq, Int.reduceToNat, Int.reduceLT, Int.reduceLE, Int.reduceAdd, Int.reduceSub, Int.reduceMul, Int.reduceNeg, Int.reduceEq, Nat.reduceMod, forall_eq_or_imp, forall_eq, forall_const, cond_true, cond_false, decide_true, decide_false, true_imp_iff, implies_true, Int.cast_ofNat_Int, forall_eq']
  refine lwp_for (α := Unit) p.ns.length (fun i _ => ((p.ns.map (·.name)).take i).Nodup) (fun i _ => [(1, .ptr 0 0 0 0 0), (3, .sc (.int .i64 i))])
    (fun i m => [(0, .box [.rsl 3 p.ns.length (ndsF p.ns), .rsl 6 p.cs.length (cbsF p.cs)])]) () (by simp) ?_ (fun _ _ => Nat.zero_le _) ?_
  · simp only [↓EVP0, EVQ0, EVQ1, EVQ2, EVQ3, EVQ4, EVA, EVK, EVF, ↓reduceIte, Nat.reduceEqDiff, Nat.reduceAdd, Nat.reduceSub, Nat.reduceMul, Nat.reduceLT, Nat.reduceLeDiff, reduceCtorEq, Int.reduceToNat, Int.reduceLT, Int.reduceLE, Int.reduceAdd, Int.reduceSub, Int.reduceMul, Int.reduceNeg, Int.reduceEq, Nat.reduceMod, forall_eq_or_imp, forall_eq, forall_const, cond_true, cond_false, decide_true, decide_false, true_imp_iff, implies_true, Int.cast_ofNat_Int, forall_eq']
  intro i _ hi hx
  unfold lb51_4
  simp only [↓EVP0, EVQ0, EVQ1, EVQ2, EVQ3, EVQ4, EVA, EVK, EVF, ↓reduceIte, Nat.reduceEqDiff, Nat.reduceAdd, Nat.reduceSub, Nat.reduceMul, Nat.reduceLT, Nat.reduceLeDiff, reduceCtorEq, Int.reduceToNat, Int.reduceLT, Int.reduceLE, Int.reduceAdd, Int.reduceSub, Int.reduceMul, Int.reduceNeg, Int.reduceEq, Nat.reduceMod, forall_eq_or_imp, forall_eq, forall_const, cond_true, cond_false, decide_true, decide_false, true_imp_iff, implies_true, Int.cast_ofNat_Int, forall_eq']
  refine fun hl => ⟨fun hg => ?_, fun hg => ?_⟩
  · have hi2 : i < p.ns.length := by simpa using hg
    refine lwp_for (α := Unit) i (fun k _ => fresh ⟨#[]⟩ (p.ns.map (·.name)) i k) (fun k _ => [(1, .ptr 0 0 0 0 0), (3, .sc (.int .i64 i)), (4, .sc (.int .i64 k))])
      (fun i m => [(0, .box [.rsl 3 p.ns.length (ndsF p.ns), .rsl 6 p.cs.length (cbsF p.cs)])]) () (fun j hj => by omega) ?_ (fun _ _ => Nat.zero_le _) ?_
    · simp only [↓EVP0, EVQ0, EVQ1, EVQ2, EVQ3, EVQ4, EVA, EVK, EVF, ↓reduceIte, Nat.reduceEqDiff, Nat.reduceAdd, Nat.reduceSub, Nat.reduceMul, Nat.reduceLT, Nat.reduceLeDiff, reduceCtorEq, Int.reduceToNat, Int.reduceLT, Int.reduceLE, Int.reduceAdd, Int.reduceSub, Int.reduceMul, Int.reduceNeg, Int.reduceEq, Nat.reduceMod, forall_eq_or_imp, forall_eq, forall_const, cond_true, cond_false, decide_true, decide_false, true_imp_iff, implies_true, Int.cast_ofNat_Int, forall_eq']
    intro k _ hk hf
    unfold lb51_3
    simp only [↓EVP0, EVQ0, EVQ1, EVQ2, EVQ3, EVQ4, EVA, EVK, EVF, ↓reduceIte, Nat.reduceEqDiff, Nat.reduceAdd, Nat.reduceSub, Nat.reduceMul, Nat.reduceLT, Nat.reduceLeDiff, reduceCtorEq, Int.reduceToNat, Int.reduceLT, Int.reduceLE, Int.reduceAdd, Int.reduceSub, Int.reduceMul, Int.reduceNeg, Int.reduceEq, Nat.reduceMod, forall_eq_or_imp, forall_eq, forall_const, cond_true, cond_false, decide_true, decide_false, true_imp_iff, implies_true, Int.cast_ofNat_Int, forall_eq']
    refine ⟨fun hg => ⟨⟨by omega, by omega⟩, ⟨by omega, by simp at hg; omega⟩, fun he => ?_, fun he => ?_⟩, fun hg => ?_⟩
    · have hk2 : k < i := by simpa using hg
      have he' : (p.ns.getD i default).name = (p.ns.getD k default).name := by simpa using he
      have : ¬ (p.ns.map (·.name)).Nodup := nodup_bad (i := i) (k := k) ⟨#[]⟩ (by simpa using hi2) hk2 (by rw [map_getD hi2, map_getD (by omega)]; exact he')
      unfold repOk
      rw [decide_eq_false this]; rfl
    · have hk2 : k < i := by simpa using hg
      have he' : ¬ (p.ns.getD i default).name = (p.ns.getD k default).name := by simpa using he
      refine ⟨by unfold In64; omega, hk2, (), fun j hj => ?_⟩
      by_cases e : j = k
      · subst e; rw [map_getD hi2, map_getD (by omega)]; exact he'
      · exact hf j (by omega)
    · have hki : k = i := by simp at hg; omega
      subst hki
      exact ⟨by unfold In64; omega, hi2, (), nodup_step ⟨#[]⟩ (by simpa using hi2) hx hf⟩
  have hii : i = p.ns.length := by simp at hg; omega
  subst hii
  have hnames : (p.ns.map (·.name)).Nodup := by
    have e : (p.ns.map (·.name)).take p.ns.length = p.ns.map (·.name) := List.take_of_length_le (by simp)
    rwa [e] at hx
  clear hx hg hl hi
  refine lwp_for (α := LO × LO × (Nat → List LV)) p.cs.length (fun i x => belowO 4 x.1 ∧ belowO 4 x.2.1 ∧ ∀ j, j < 2 * i → x.2.2 j = [.sc (.int .i64 ((endsOf p.cs).getD j (0, 0)).1), .sc (.int .i64 ((endsOf p.cs).getD j (0, 0)).2)])
    (fun i x => if i = 0 then [(1, .ptr 0 0 0 0 0), (5, .nsl), (6, .sc (.int .i64 i))] else [(1, .ptr 0 0 0 0 0), (5, .sl 3 (i - 1) 2 0 (2 * i)), (6, .sc (.int .i64 i))])
    (fun i x => if i = 0 then [(0, .box [.rsl 3 p.ns.length (ndsF p.ns), .rsl 6 p.cs.length (cbsF p.cs)])] else [(0, .box [.rsl 3 p.ns.length (ndsF p.ns), .rsl 6 p.cs.length (cbsF p.cs)]), (0, x.1), (0, x.2.1), (i - 1, .row 2 (2 * i) x.2.2)])
    (.dead, .dead, fun _ => []) ⟨trivial, trivial, fun j hj => by omega⟩ ?_ (fun _ _ => Nat.zero_le _) ?_
  · simp only [↓EVP0, EVQ0, EVQ1, EVQ2, EVQ3, EVQ4, EVA, EVK, EVF, ↓reduceIte, Nat.reduceEqDiff, Nat.reduceAdd, Nat.reduceSub, Nat.reduceMul, Nat.reduceLT, Nat.reduceLeDiff, reduceCtorEq, Int.reduceToNat, Int.reduceLT, Int.reduceLE, Int.reduceAdd, Int.reduceSub, Int.reduceMul, Int.reduceNeg, Int.reduceEq, Nat.reduceMod, forall_eq_or_imp, forall_eq, forall_const, cond_true, cond_false, decide_true, decide_false, true_imp_iff, implies_true, Int.cast_ofNat_Int, forall_eq']
  rintro i ⟨X, Y, f⟩ hi ⟨hX, hY, hx⟩
  simp only at hx hX hY
  rcases Nat.eq_zero_or_pos i with hi0 | hi0
  · subst hi0
    rw [if_pos rfl, if_pos rfl]
    unfold lb51_2
    simp only [↓EVP0, EVQ0, EVQ1, EVQ2, EVQ3, EVQ4, EVA, EVK, EVF, ↓reduceIte, Nat.reduceEqDiff, Nat.reduceAdd, Nat.reduceSub, Nat.reduceMul, Nat.reduceLT, Nat.reduceLeDiff, reduceCtorEq, Int.reduceToNat, Int.reduceLT, Int.reduceLE, Int.reduceAdd, Int.reduceSub, Int.reduceMul, Int.reduceNeg, Int.reduceEq, Nat.reduceMod, forall_eq_or_imp, forall_eq, forall_const, cond_true, cond_false, decide_true, decide_false, true_imp_iff, implies_true, Int.cast_ofNat_Int, forall_eq']
    intro hl
    refine ⟨fun hg => ?_, fun hg => ?_⟩
    · have hc0 : 0 < p.cs.length := by simpa using hg
      have he := ends_get p.cs 0 hc0
      refine ⟨by omega, fun j hj => ?_, by unfold appRoom; omega, by unfold In64; omega, hc0, (_, _, _), ⟨?_, ?_, ?_⟩, rfl, ?_, rfl, ?_, rfl, ?_⟩
      · obtain rfl | rfl : j = 0 ∨ j = 1 := by omega
        all_goals rfl
      · simp [belowO, allC, belowC]
      · intro j hj
        obtain rfl | rfl : j = 0 ∨ j = 1 := by omega
        all_goals simp [allC, belowC]
      · intro j hj
        simp only [Nat.mul_zero, Nat.zero_add] at he
        obtain rfl | rfl : j = 0 ∨ j = 1 := by omega
        · rw [he.1]; rfl
        · rw [he.2]; rfl
      · simp [belowO, allC, belowC]
      · intro j hj
        obtain rfl | rfl : j = 0 ∨ j = 1 := by omega
        all_goals simp [allC, belowC]
      · intro j hj
        obtain rfl | rfl : j = 0 ∨ j = 1 := by omega
        all_goals simp [allC, belowC]
    · have hc0 : p.cs.length = 0 := by have := of_decide_eq_false hg; omega
      have hnil : p.cs = [] := List.length_eq_zero_iff.1 hc0
      refine lwp_for (α := Unit) 0 (fun i _ => True) (fun i _ => [(5, .nsl), (8, .sc (.int .i64 i))]) (fun i _ => []) () trivial ?_ (fun _ _ => Nat.zero_le _) ?_
      · simp only [↓EVP0, EVQ0, EVQ1, EVQ2, EVQ3, EVQ4, EVA, EVK, EVF, ↓reduceIte, Nat.reduceEqDiff, Nat.reduceAdd, Nat.reduceSub, Nat.reduceMul, Nat.reduceLT, Nat.reduceLeDiff, reduceCtorEq, Int.reduceToNat, Int.reduceLT, Int.reduceLE, Int.reduceAdd, Int.reduceSub, Int.reduceMul, Int.reduceNeg, Int.reduceEq, Nat.reduceMod, forall_eq_or_imp, forall_eq, forall_const, cond_true, cond_false, decide_true, decide_false, true_imp_iff, implies_true, Int.cast_ofNat_Int, forall_eq']
      intro i _ hi _
      unfold lb51_1
      simp only [↓EVP0, EVQ0, EVQ1, EVQ2, EVQ3, EVQ4, EVA, EVK, EVF, ↓reduceIte, Nat.reduceEqDiff, Nat.reduceAdd, Nat.reduceSub, Nat.reduceMul, Nat.reduceLT, Nat.reduceLeDiff, reduceCtorEq, Int.reduceToNat, Int.reduceLT, Int.reduceLE, Int.reduceAdd, Int.reduceSub, Int.reduceMul, Int.reduceNeg, Int.reduceEq, Nat.reduceMod, forall_eq_or_imp, forall_eq, forall_const, cond_true, cond_false, decide_true, decide_false, true_imp_iff, implies_true, Int.cast_ofNat_Int, forall_eq']
      have : repOk p = false := by unfold repOk endsOf; rw [decide_eq_true hnames, hnil]; rfl
      rw [this]
      refine ⟨fun h => ?_, fun _ => rfl⟩
      simp at h; omega
  · have hne : ¬ i = 0 := by omega
    have hne2 : ¬ i + 1 = 0 := by omega
    simp only [hne, hne2, if_false]
    unfold lb51_2
    simp only [↓EVP0, EVQ0, EVQ1, EVQ2, EVQ3, EVQ4, EVA, EVK, EVF, ↓reduceIte, Nat.reduceEqDiff, Nat.reduceAdd, Nat.reduceSub, Nat.reduceMul, Nat.reduceLT, Nat.reduceLeDiff, reduceCtorEq, Int.reduceToNat, Int.reduceLT, Int.reduceLE, Int.reduceAdd, Int.reduceSub, Int.reduceMul, Int.reduceNeg, Int.reduceEq, Nat.reduceMod, forall_eq_or_imp, forall_eq, forall_const, cond_true, cond_false, decide_true, decide_false, true_imp_iff, implies_true, Int.cast_ofNat_Int, forall_eq']
    intro hl
    refine ⟨fun hg => ?_, fun hg => ?_⟩
    · have hi2 : i < p.cs.length := by simpa using hg
      have he := ends_get p.cs i hi2
      refine ⟨⟨by omega, by omega⟩, fun j hj => ?_, ⟨Nat.le_refl _, fun j hj => by rw [hx j hj]; rfl⟩, by unfold appRoom; omega, by unfold In64; omega, hi2, (X, Y, _), ⟨hX, hY, ?_⟩, ?_, rfl, hX, rfl, hY, ⟨by omega, rfl⟩, ?_⟩
      · obtain rfl | rfl : j = 0 ∨ j = 1 := by omega
        all_goals rfl
      · intro j hj
        rcases two_split hj with h | rfl | rfl
        · show (if j < 2 * i then f j else _) = _
          rw [if_pos h, hx j h]
        · show (if 2 * i < 2 * i then f (2 * i) else _) = _
          rw [if_neg (by omega), he.1, Nat.sub_self]; rfl
        · show (if 2 * i + 1 < 2 * i then f (2 * i + 1) else _) = _
          rw [if_neg (by omega), he.2, show 2 * i + 1 - 2 * i = 1 by omega]; rfl
      · congr 1; omega
      · intro j hj
        rcases two_split hj with h | rfl | rfl
        · show allC 4 (List.take 2 (if j < 2 * i then f j else _))
          rw [if_pos h, hx j h]; simp [allC, belowC]
        · show allC 4 (List.take 2 (if 2 * i < 2 * i then f (2 * i) else _))
          rw [if_neg (by omega), Nat.sub_self]; simp [allC, belowC]
        · show allC 4 (List.take 2 (if 2 * i + 1 < 2 * i then f (2 * i + 1) else _))
          rw [if_neg (by omega), show 2 * i + 1 - 2 * i = 1 by omega]; simp [allC, belowC]
    have hii : i = p.cs.length := by have := of_decide_eq_false hg; omega
    have hlen : (endsOf p.cs).length = 2 * i := by rw [ends_len, hii]
    have hf2 : ∀ j, j < 2 * i → allC 4 ((f j).take 2) := fun j hj => by rw [hx j hj]; simp [allC, belowC]
    clear hg hl hi
    refine lwp_for (α := Unit) (2 * i) (fun a _ => ((endsOf p.cs).take a).Nodup) (fun a _ => [(5, .sl 3 (i - 1) 2 0 (2 * i)), (8, .sc (.int .i64 a))])
      (fun _ _ => [(0, .box [.rsl 3 p.ns.length (ndsF p.ns), .rsl 6 p.cs.length (cbsF p.cs)]), (0, X), (0, Y), (i - 1, .row 2 (2 * i) f)]) () (by simp) ?_ (fun _ _ => Nat.zero_le _) ?_
    · simp only [↓EVP0, EVQ0, EVQ1, EVQ2, EVQ3, EVQ4, EVA, EVK, EVF, ↓reduceIte, Nat.reduceEqDiff, Nat.reduceAdd, Nat.reduceSub, Nat.reduceMul, Nat.reduceLT, Nat.reduceLeDiff, reduceCtorEq, Int.reduceToNat, Int.reduceLT, Int.reduceLE, Int.reduceAdd, Int.reduceSub, Int.reduceMul, Int.reduceNeg, Int.reduceEq, Nat.reduceMod, forall_eq_or_imp, forall_eq, forall_const, cond_true, cond_false, decide_true, decide_false, true_imp_iff, implies_true, Int.cast_ofNat_Int, forall_eq']
      exact ⟨hX, hY, hf2⟩
    intro a _ ha hn
    unfold lb51_1
    simp only [↓EVP0, EVQ0, EVQ1, EVQ2, EVQ3, EVQ4, EVA, EVK, EVF, ↓reduceIte, Nat.reduceEqDiff, Nat.reduceAdd, Nat.reduceSub, Nat.reduceMul, Nat.reduceLT, Nat.reduceLeDiff, reduceCtorEq, Int.reduceToNat, Int.reduceLT, Int.reduceLE, Int.reduceAdd, Int.reduceSub, Int.reduceMul, Int.reduceNeg, Int.reduceEq, Nat.reduceMod, forall_eq_or_imp, forall_eq, forall_const, cond_true, cond_false, decide_true, decide_false, true_imp_iff, implies_true, Int.cast_ofNat_Int, forall_eq']
    refine fun hl => ⟨fun hg => ?_, fun hg => ?_⟩
    · have ha2 : a < 2 * i := by have := of_decide_eq_true hg; omega
      refine lwp_for (α := Unit) a (fun k _ => fresh (0, 0) (endsOf p.cs) a k) (fun k _ => [(5, .sl 3 (i - 1) 2 0 (2 * i)), (8, .sc (.int .i64 a)), (9, .sc (.int .i64 k))])
        (fun _ _ => [(0, .box [.rsl 3 p.ns.length (ndsF p.ns), .rsl 6 p.cs.length (cbsF p.cs)]), (0, X), (0, Y), (i - 1, .row 2 (2 * i) f)]) () (fun j hj => by omega) ?_ (fun _ _ => Nat.zero_le _) ?_
      · simp only [↓EVP0, EVQ0, EVQ1, EVQ2, EVQ3, EVQ4, EVA, EVK, EVF, ↓reduceIte, Nat.reduceEqDiff, Nat.reduceAdd, Nat.reduceSub, Nat.reduceMul, Nat.reduceLT, Nat.reduceLeDiff, reduceCtorEq, Int.reduceToNat, Int.reduceLT, Int.reduceLE, Int.reduceAdd, Int.reduceSub, Int.reduceMul, Int.reduceNeg, Int.reduceEq, Nat.reduceMod, forall_eq_or_imp, forall_eq, forall_const, cond_true, cond_false, decide_true, decide_false, true_imp_iff, implies_true, Int.cast_ofNat_Int, forall_eq']
        exact ⟨hX, hY, hf2⟩
      intro k _ hk hf
      have e1 := hx a ha2
      unfold lb51_0
      simp only [↓EVP0, EVQ0, EVQ1, EVQ2, EVQ3, EVQ4, EVA, EVK, EVF, ↓reduceIte, Nat.reduceEqDiff, Nat.reduceAdd, Nat.reduceSub, Nat.reduceMul, Nat.reduceLT, Nat.reduceLeDiff, reduceCtorEq, Int.reduceToNat, Int.reduceLT, Int.reduceLE, Int.reduceAdd, Int.reduceSub, Int.reduceMul, Int.reduceNeg, Int.reduceEq, Nat.reduceMod, forall_eq_or_imp, forall_eq, forall_const, cond_true, cond_false, decide_true, decide_false, true_imp_iff, implies_true, Int.cast_ofNat_Int, forall_eq']
      have hel : (endsOf p.cs).length = 2 * i := hlen
      refine ⟨fun hg2 => ?_, fun hg2 => ?_⟩
      · have hk2 : k < a := by have := of_decide_eq_true hg2; omega
        have e2 := hx k (by omega)
        rw [e1, e2]
        refine ⟨⟨by omega, by omega⟩, ⟨by decide, ha2, rfl⟩, ⟨by omega, by omega⟩, ⟨by decide, by omega, rfl⟩, ⟨⟨rfl, rfl, trivial⟩, ⟨rfl, rfl, trivial⟩⟩, fun h => ?_, fun h => ?_⟩
        · have he : (endsOf p.cs).getD a (0, 0) = (endsOf p.cs).getD k (0, 0) := by
            simp [eqL, eqCell] at h
            exact Prod.ext h.1 h.2
          have : ¬ (endsOf p.cs).Nodup := nodup_bad (i := a) (k := k) (0, 0) (by omega) hk2 he
          unfold repOk
          rw [decide_eq_false this, Bool.and_false]; rfl
        · have he : ¬ (endsOf p.cs).getD a (0, 0) = (endsOf p.cs).getD k (0, 0) := by
            intro he
            rw [he] at h
            simp [eqL, eqCell] at h
          refine ⟨by unfold In64; omega, hk2, (), fun j hj => ?_, hX, hY, hf2⟩
          by_cases e : j = k
          · subst e; exact he
          · exact hf j (by omega)
      · have hka : k = a := by have := of_decide_eq_false hg2; omega
        subst hka
        exact ⟨by unfold In64; omega, ha2, (), nodup_step (0, 0) (by omega) hn hf, hX, hY, hf2⟩
    · have haa : a = 2 * i := by have := of_decide_eq_false hg; omega
      rw [haa, ← hlen, List.take_length] at hn
      unfold repOk
      rw [decide_eq_true hn, decide_eq_true hnames]; rfl
theorem nodeOk_ref (n : Nd) : (bif bif !nameOk n.name then true else bif n.sw then bif decide (n.ports < 1) then true else decide (8 < n.ports) else false then true else bif !n.sw then !decide (n.ports = 1) else false) = !nodeOk n := by
  unfold nodeOk
  have e1 : decide (n.ports < 1) = !decide (1 ≤ n.ports) := by rw [Bool.eq_iff_iff]; simp
  have e2 : decide (8 < n.ports) = !decide (n.ports ≤ 8) := by rw [Bool.eq_iff_iff]; simp
  rw [e1, e2]
  cases nameOk n.name <;> cases n.sw <;> cases decide (1 ≤ n.ports) <;> cases decide (n.ports ≤ 8) <;> cases decide (n.ports = 1) <;> rfl
theorem ev_ref14 (p : Pl) : Ev Tryd.prog 22 [plV p] (.sc (.int .i64 (validE p))) := by
  have h33 := ev_rName
  have h34 := ev_place p
  have h35 := ev_twice p
  unfold plV at *
  refine ev_fn Tryd.func22 comp22 (show 1 ≤ Tryd.f22.ntmps by decide) ?_; unfold cf22 rf22; simp only [↓EVP0, EVQ0, EVQ1, EVQ2, EVQ3, EVQ4, EVA, EVK, EVF, ↓reduceIte, Nat.reduceEqDiff, Nat.reduceAdd, Nat.reduceSub, Nat.reduceMul, Nat.reduceLT, Nat.reduceLeDiff, reduceCtorEq, Int.reduceToNat, Int.reduceLT, Int.reduceLE, Int.reduceAdd, Int.reduceSub, Int.reduceMul, Int.reduceNeg, Int.reduceEq, Nat.reduceMod, forall_eq_or_imp, forall_eq, forall_const, cond_true, cond_false, decide_true, decide_false, true_imp_iff, implies_true, Int.cast_ofNat_Int, forall_eq']
  simp only [condT]
  refine fun hn => ⟨fun hg => ?_, fun hg => ?_⟩
  · have : (decide (16 < p.ns.length) || decide (32 < p.cs.length)) = true := by simp at hg ⊢; omega
    simp [validE, this]
  have hsz : p.ns.length ≤ 16 ∧ p.cs.length ≤ 32 := by simp at hg; omega
  have hsb : (decide (16 < p.ns.length) || decide (32 < p.cs.length)) = false := by simp; omega
  refine lwp_for (α := Unit) p.ns.length (fun i m => (p.ns.take i).all nodeOk = true) (fun i m => [(1, .ptr 0 0 0 0 0), (3, .sc (.int .i64 i))])
    (fun i m => [(0, .box [.rsl 3 p.ns.length (ndsF p.ns), .rsl 6 p.cs.length (cbsF p.cs)])]) () rfl ?_ (fun _ _ => Nat.zero_le _) ?_
  · simp only [↓EVP0, EVQ0, EVQ1, EVQ2, EVQ3, EVQ4, EVA, EVK, EVF, ↓reduceIte, Nat.reduceEqDiff, Nat.reduceAdd, Nat.reduceSub, Nat.reduceMul, Nat.reduceLT, Nat.reduceLeDiff, reduceCtorEq, Int.reduceToNat, Int.reduceLT, Int.reduceLE, Int.reduceAdd, Int.reduceSub, Int.reduceMul, Int.reduceNeg, Int.reduceEq, Nat.reduceMod, forall_eq_or_imp, forall_eq, forall_const, cond_true, cond_false, decide_true, decide_false, true_imp_iff, implies_true, Int.cast_ofNat_Int, forall_eq']
  intro i _ hi hx
  unfold lb22_3
  simp only [↓EVP0, EVQ0, EVQ1, EVQ2, EVQ3, EVQ4, EVA, EVK, EVF, ↓reduceIte, Nat.reduceEqDiff, Nat.reduceAdd, Nat.reduceSub, Nat.reduceMul, Nat.reduceLT, Nat.reduceLeDiff, reduceCtorEq, Int.reduceToNat, Int.reduceLT, Int.reduceLE, Int.reduceAdd, Int.reduceSub, Int.reduceMul, Int.reduceNeg, Int.reduceEq, Nat.reduceMod, forall_eq_or_imp, forall_eq, forall_const, cond_true, cond_false, decide_true, decide_false, true_imp_iff, implies_true, Int.cast_ofNat_Int, forall_eq']
  refine fun _ => ⟨fun hg => ?_, fun hg => ?_⟩
  · have hi2 : i < p.ns.length := by simpa using hg
    refine ⟨⟨by omega, by omega⟩, callK_ro (h33 _) ?_ ?_⟩
    · simp only [↓EVP0, EVQ0, EVQ1, EVQ2, EVQ3, EVQ4, EVA, EVK, EVF, ↓reduceIte, Nat.reduceEqDiff, Nat.reduceAdd, Nat.reduceSub, Nat.reduceMul, Nat.reduceLT, Nat.reduceLeDiff, reduceCtorEq, Int.reduceToNat, Int.reduceLT, Int.reduceLE, Int.reduceAdd, Int.reduceSub, Int.reduceMul, Int.reduceNeg, Int.reduceEq, Nat.reduceMod, forall_eq_or_imp, forall_eq, forall_const, cond_true, cond_false, decide_true, decide_false, true_imp_iff, implies_true, Int.cast_ofNat_Int, forall_eq']
    simp only [↓EVP0, EVQ0, EVQ1, EVQ2, EVQ3, EVQ4, EVA, EVK, EVF, ↓reduceIte, Nat.reduceEqDiff, Nat.reduceAdd, Nat.reduceSub, Nat.reduceMul, Nat.reduceLT, Nat.reduceLeDiff, reduceCtorEq, Int.reduceToNat, Int.reduceLT, Int.reduceLE, Int.reduceAdd, Int.reduceSub, Int.reduceMul, Int.reduceNeg, Int.reduceEq, Nat.reduceMod, forall_eq_or_imp, forall_eq, forall_const, cond_true, cond_false, decide_true, decide_false, true_imp_iff, implies_true, Int.cast_ofNat_Int, forall_eq']
    rw [nodeOk_ref]
    refine ⟨fun hg => ?_, fun hg => ⟨by unfold In64; omega, hi2, (), all_step default hi2 hx (by simpa using hg)⟩⟩
    have := all_fail (q := nodeOk) default hi2 (by simpa using hg)
    simp [validE, hsb, this]
  have hii : i = p.ns.length := by simp at hg; omega
  subst hii
  have hN := all_len hx
  refine lwp_for (α := Unit) p.cs.length (fun i m => (p.cs.take i).all (portsOk p) = true) (fun i m => [(1, .ptr 0 0 0 0 0), (5, .sc (.int .i64 i))])
    (fun i m => [(0, .box [.rsl 3 p.ns.length (ndsF p.ns), .rsl 6 p.cs.length (cbsF p.cs)])]) () rfl ?_ (fun _ _ => Nat.zero_le _) ?_
  · simp only [↓EVP0, EVQ0, EVQ1, EVQ2, EVQ3, EVQ4, EVA, EVK, EVF, ↓reduceIte, Nat.reduceEqDiff, Nat.reduceAdd, Nat.reduceSub, Nat.reduceMul, Nat.reduceLT, Nat.reduceLeDiff, reduceCtorEq, Int.reduceToNat, Int.reduceLT, Int.reduceLE, Int.reduceAdd, Int.reduceSub, Int.reduceMul, Int.reduceNeg, Int.reduceEq, Nat.reduceMod, forall_eq_or_imp, forall_eq, forall_const, cond_true, cond_false, decide_true, decide_false, true_imp_iff, implies_true, Int.cast_ofNat_Int, forall_eq']
  intro i _ hi hx
  unfold lb22_2
  simp only [↓EVP0, EVQ0, EVQ1, EVQ2, EVQ3, EVQ4, EVA, EVK, EVF, ↓reduceIte, Nat.reduceEqDiff, Nat.reduceAdd, Nat.reduceSub, Nat.reduceMul, Nat.reduceLT, Nat.reduceLeDiff, reduceCtorEq, Int.reduceToNat, Int.reduceLT, Int.reduceLE, Int.reduceAdd, Int.reduceSub, Int.reduceMul, Int.reduceNeg, Int.reduceEq, Nat.reduceMod, forall_eq_or_imp, forall_eq, forall_const, cond_true, cond_false, decide_true, decide_false, true_imp_iff, implies_true, Int.cast_ofNat_Int, forall_eq']
  refine fun _ => ⟨fun hg => ?_, fun hg => ?_⟩
  · have hi2 : i < p.cs.length := by simpa using hg
    refine ⟨⟨by omega, by omega⟩, ?_⟩
    refine callK_ro (h34 _ _) ?_ ?_
    · simp only [↓EVP0, EVQ0, EVQ1, EVQ2, EVQ3, EVQ4, EVA, EVK, EVF, ↓reduceIte, Nat.reduceEqDiff, Nat.reduceAdd, Nat.reduceSub, Nat.reduceMul, Nat.reduceLT, Nat.reduceLeDiff, reduceCtorEq, Int.reduceToNat, Int.reduceLT, Int.reduceLE, Int.reduceAdd, Int.reduceSub, Int.reduceMul, Int.reduceNeg, Int.reduceEq, Nat.reduceMod, forall_eq_or_imp, forall_eq, forall_const, cond_true, cond_false, decide_true, decide_false, true_imp_iff, implies_true, Int.cast_ofNat_Int, forall_eq']
    simp only [↓EVP0, EVQ0, EVQ1, EVQ2, EVQ3, EVQ4, EVA, EVK, EVF, ↓reduceIte, Nat.reduceEqDiff, Nat.reduceAdd, Nat.reduceSub, Nat.reduceMul, Nat.reduceLT, Nat.reduceLeDiff, reduceCtorEq, Int.reduceToNat, Int.reduceLT, Int.reduceLE, Int.reduceAdd, Int.reduceSub, Int.reduceMul, Int.reduceNeg, Int.reduceEq, Nat.reduceMod, forall_eq_or_imp, forall_eq, forall_const, cond_true, cond_false, decide_true, decide_false, true_imp_iff, implies_true, Int.cast_ofNat_Int, forall_eq']
    (refine lops_ge_imp ?_; simp only [↓EVP0, EVQ0, EVQ1, EVQ2, EVQ3, EVQ4, EVA, EVK, EVF, ↓reduceIte, Nat.reduceEqDiff, Nat.reduceAdd, Nat.reduceSub, Nat.reduceMul, Nat.reduceLT, Nat.reduceLeDiff, reduceCtorEq, Int.reduceToNat, Int.reduceLT, Int.reduceLE, Int.reduceAdd, Int.reduceSub, Int.reduceMul, Int.reduceNeg, Int.reduceEq, Nat.reduceMod, forall_eq_or_imp, forall_eq, forall_const, cond_true, cond_false, decide_true, decide_false, true_imp_iff, implies_true, Int.cast_ofNat_Int, forall_eq'])
    refine gCallK_ro _ (fun _ => h34 _ _) (fun _ => ?_) ?_
    · simp only [↓EVP0, EVQ0, EVQ1, EVQ2, EVQ3, EVQ4, EVA, EVK, EVF, ↓reduceIte, Nat.reduceEqDiff, Nat.reduceAdd, Nat.reduceSub, Nat.reduceMul, Nat.reduceLT, Nat.reduceLeDiff, reduceCtorEq, Int.reduceToNat, Int.reduceLT, Int.reduceLE, Int.reduceAdd, Int.reduceSub, Int.reduceMul, Int.reduceNeg, Int.reduceEq, Nat.reduceMod, forall_eq_or_imp, forall_eq, forall_const, cond_true, cond_false, decide_true, decide_false, true_imp_iff, implies_true, Int.cast_ofNat_Int, forall_eq']
    simp only [↓EVP0, EVQ0, EVQ1, EVQ2, EVQ3, EVQ4, EVA, EVK, EVF, ↓reduceIte, Nat.reduceEqDiff, Nat.reduceAdd, Nat.reduceSub, Nat.reduceMul, Nat.reduceLT, Nat.reduceLeDiff, reduceCtorEq, Int.reduceToNat, Int.reduceLT, Int.reduceLE, Int.reduceAdd, Int.reduceSub, Int.reduceMul, Int.reduceNeg, Int.reduceEq, Nat.reduceMod, forall_eq_or_imp, forall_eq, forall_const, cond_true, cond_false, decide_true, decide_false, true_imp_iff, implies_true, Int.cast_ofNat_Int, forall_eq']
    refine ⟨fun hg => ?_, fun hg => ⟨by unfold In64; omega, hi2, (), all_step default hi2 hx (by unfold portsOk; revert hg; cases portOk p (p.cs.getD i default).a (p.cs.getD i default).ap <;> simp)⟩⟩
    have := all_fail (q := portsOk p) default hi2 (by unfold portsOk; revert hg; cases portOk p (p.cs.getD i default).a (p.cs.getD i default).ap <;> simp)
    simp [validE, hsb, hN, this]
  have hii : i = p.cs.length := by simp at hg; omega
  subst hii
  have hP := all_len hx
  refine callK_ro (h35 hsz.1 hsz.2) ?_ ?_
  · simp only [↓EVP0, EVQ0, EVQ1, EVQ2, EVQ3, EVQ4, EVA, EVK, EVF, ↓reduceIte, Nat.reduceEqDiff, Nat.reduceAdd, Nat.reduceSub, Nat.reduceMul, Nat.reduceLT, Nat.reduceLeDiff, reduceCtorEq, Int.reduceToNat, Int.reduceLT, Int.reduceLE, Int.reduceAdd, Int.reduceSub, Int.reduceMul, Int.reduceNeg, Int.reduceEq, Nat.reduceMod, forall_eq_or_imp, forall_eq, forall_const, cond_true, cond_false, decide_true, decide_false, true_imp_iff, implies_true, Int.cast_ofNat_Int, forall_eq']
  simp only [↓EVP0, EVQ0, EVQ1, EVQ2, EVQ3, EVQ4, EVA, EVK, EVF, ↓reduceIte, Nat.reduceEqDiff, Nat.reduceAdd, Nat.reduceSub, Nat.reduceMul, Nat.reduceLT, Nat.reduceLeDiff, reduceCtorEq, Int.reduceToNat, Int.reduceLT, Int.reduceLE, Int.reduceAdd, Int.reduceSub, Int.reduceMul, Int.reduceNeg, Int.reduceEq, Nat.reduceMod, forall_eq_or_imp, forall_eq, forall_const, cond_true, cond_false, decide_true, decide_false, true_imp_iff, implies_true, Int.cast_ofNat_Int, forall_eq']
  refine ⟨fun hg => by simp [validE, hsb, hN, hP, hg], fun hR => ?_⟩
  refine lwp_for (α := Unit) p.cs.length (fun i m => (p.cs.take i).all selfOk = true) (fun i m => [(1, .ptr 0 0 0 0 0), (7, .sc (.int .i64 i))])
    (fun i m => [(0, .box [.rsl 3 p.ns.length (ndsF p.ns), .rsl 6 p.cs.length (cbsF p.cs)])]) () rfl ?_ (fun _ _ => Nat.zero_le _) ?_
  · simp only [↓EVP0, EVQ0, EVQ1, EVQ2, EVQ3, EVQ4, EVA, EVK, EVF, ↓reduceIte, Nat.reduceEqDiff, Nat.reduceAdd, Nat.reduceSub, Nat.reduceMul, Nat.reduceLT, Nat.reduceLeDiff, reduceCtorEq, Int.reduceToNat, Int.reduceLT, Int.reduceLE, Int.reduceAdd, Int.reduceSub, Int.reduceMul, Int.reduceNeg, Int.reduceEq, Nat.reduceMod, forall_eq_or_imp, forall_eq, forall_const, cond_true, cond_false, decide_true, decide_false, true_imp_iff, implies_true, Int.cast_ofNat_Int, forall_eq']
  intro i _ hi hx
  unfold lb22_1
  simp only [↓EVP0, EVQ0, EVQ1, EVQ2, EVQ3, EVQ4, EVA, EVK, EVF, ↓reduceIte, Nat.reduceEqDiff, Nat.reduceAdd, Nat.reduceSub, Nat.reduceMul, Nat.reduceLT, Nat.reduceLeDiff, reduceCtorEq, Int.reduceToNat, Int.reduceLT, Int.reduceLE, Int.reduceAdd, Int.reduceSub, Int.reduceMul, Int.reduceNeg, Int.reduceEq, Nat.reduceMod, forall_eq_or_imp, forall_eq, forall_const, cond_true, cond_false, decide_true, decide_false, true_imp_iff, implies_true, Int.cast_ofNat_Int, forall_eq']
  refine fun _ => ⟨fun hg => ?_, fun hg => ?_⟩
  · have hi2 : i < p.cs.length := by simpa using hg
    refine ⟨⟨by omega, by omega⟩, ⟨by omega, by omega⟩, fun hg => ?_, fun hg => ⟨by unfold In64; omega, hi2, (), all_step default hi2 hx (by unfold selfOk; rw [hg]; rfl)⟩⟩
    have := all_fail (q := selfOk) default hi2 (by unfold selfOk; rw [hg]; rfl)
    simp [validE, hsb, hN, hP, hR, this]
  have hii : i = p.cs.length := by simp at hg; omega
  subst hii
  have hS := all_len hx
  refine lwp_for (α := Unit) p.cs.length (fun i m => (p.cs.take i).all numOk = true) (fun i m => [(1, .ptr 0 0 0 0 0), (8, .sc (.int .i64 i))])
    (fun i m => [(0, .box [.rsl 3 p.ns.length (ndsF p.ns), .rsl 6 p.cs.length (cbsF p.cs)])]) () rfl ?_ (fun _ _ => Nat.zero_le _) ?_
  · simp only [↓EVP0, EVQ0, EVQ1, EVQ2, EVQ3, EVQ4, EVA, EVK, EVF, ↓reduceIte, Nat.reduceEqDiff, Nat.reduceAdd, Nat.reduceSub, Nat.reduceMul, Nat.reduceLT, Nat.reduceLeDiff, reduceCtorEq, Int.reduceToNat, Int.reduceLT, Int.reduceLE, Int.reduceAdd, Int.reduceSub, Int.reduceMul, Int.reduceNeg, Int.reduceEq, Nat.reduceMod, forall_eq_or_imp, forall_eq, forall_const, cond_true, cond_false, decide_true, decide_false, true_imp_iff, implies_true, Int.cast_ofNat_Int, forall_eq']
  intro i _ hi hx
  unfold lb22_0
  simp only [↓EVP0, EVQ0, EVQ1, EVQ2, EVQ3, EVQ4, EVA, EVK, EVF, ↓reduceIte, Nat.reduceEqDiff, Nat.reduceAdd, Nat.reduceSub, Nat.reduceMul, Nat.reduceLT, Nat.reduceLeDiff, reduceCtorEq, Int.reduceToNat, Int.reduceLT, Int.reduceLE, Int.reduceAdd, Int.reduceSub, Int.reduceMul, Int.reduceNeg, Int.reduceEq, Nat.reduceMod, forall_eq_or_imp, forall_eq, forall_const, cond_true, cond_false, decide_true, decide_false, true_imp_iff, implies_true, Int.cast_ofNat_Int, forall_eq']
  refine fun _ => ⟨fun hg => ?_, fun hg => ?_⟩
  · have hi2 : i < p.cs.length := by simpa using hg
    have e : ∀ c : Cb, (bif bif bif decide (c.dl < 1) then true else decide (100 < c.dl) then true else decide (c.cp < 1) then true else decide (1000 < c.cp)) = !numOk c := by
      intro c
      rw [Bool.eq_iff_iff]
      simp only [condT, numOk, Bool.or_eq_true, Bool.not_eq_true', Bool.and_eq_false_iff, decide_eq_true_eq, decide_eq_false_iff_not]
      omega
    rw [e]
    refine ⟨⟨by omega, by omega⟩, fun hg => ?_, fun hg => ⟨by unfold In64; omega, hi2, (), all_step default hi2 hx (by simpa using hg)⟩⟩
    have := all_fail (q := numOk) default hi2 (by simpa using hg)
    simp [validE, hsb, hN, hP, hR, hS, this]
  have hii : i = p.cs.length := by simp at hg; omega
  subst hii
  have hU := all_len hx
  simp [validE, hsb, hN, hP, hR, hS, hU]
end Go.Proofs.YtcdepkflghcjpaaDoor
namespace Go.Proofs.YtcdepkflghcjpaaDoor
set_option linter.unusedSimpArgs false
set_option linter.unusedVariables false
open Go.RowKit
set_option maxRecDepth 20000

def acrE (c : Cb) (x : Int) : Int × Bool := bif decide (x = c.a) then (c.b, true) else bif decide (x = c.b) then (c.a, true) else (0, false)
def nodB (p : Pl) (x : Int) : Bool := decide (0 ≤ x) && decide (x < p.ns.length)
theorem ev_isNode (p : Pl) (x : Int) : Ev Tryd.prog 53 [plV p, .sc (.int .i64 x)] (.sc (.bool (nodB p x))) := by
  unfold plV
  refine ev_fn Tryd.func53 comp53 (show 2 ≤ Tryd.f53.ntmps by decide) ?_; unfold cf53 rf53; simp only [↓EVP0, EVQ0, EVQ1, EVQ2, EVQ3, EVQ4, EVA, EVK, EVF, ↓reduceIte, Nat.reduceEqDiff, Nat.reduceAdd, Nat.reduceSub, Nat.reduceMul, Nat.reduceLT, Nat.reduceLeDiff, reduceCtorEq, Int.reduceToNat, Int.reduceLT, Int.reduceLE, Int.reduceAdd, Int.reduceSub, Int.reduceMul, Int.reduceNeg, Int.reduceEq, Nat.reduceMod, forall_eq_or_imp, forall_eq, forall_const, cond_true, cond_false, decide_true, decide_false, true_imp_iff, implies_true, Int.cast_ofNat_Int, forall_eq']
  rw [condF]; rfl
theorem getD_mem {α : Type} (d : α) {l : List α} {i : Nat} (h : i < l.length) : l.getD i d ∈ l := by
  rw [List.getD_eq_getElem?_getD, List.getElem?_eq_getElem h]; exact List.getElem_mem h
theorem other_acr {c : Cb} (x : Int) (ha : 0 ≤ c.a) (hb : 0 ≤ c.b) : otherE c x = if (acrE c x).2 = true then (acrE c x).1 else -1 := by
  unfold otherE acrE
  rw [show decide (c.a = x) = decide (x = c.a) from decide_eq_decide.2 eq_comm, show decide (c.b = x) = decide (x = c.b) from decide_eq_decide.2 eq_comm]
  cases decide (x = c.a) <;> cases decide (x = c.b) <;> rfl
theorem cs_in {p : Pl} (hv : validE p = 0) {i : Int} (h : 0 ≤ i ∧ i < p.cs.length) : inN p.ns.length (p.cs.getD i.toNat default).a ∧ inN p.ns.length (p.cs.getD i.toNat default).b := (valid_of hv).cab _ (cs_mem h.1 h.2)
theorem acr_in {p : Pl} (hv : validE p = 0) {i x : Int} (h : 0 ≤ i ∧ i < p.cs.length) (ho : (acrE (p.cs.getD i.toNat default) x).2 = true) : inN p.ns.length (acrE (p.cs.getD i.toNat default) x).1 := by
  obtain ⟨h1, h2⟩ := cs_in hv h
  unfold acrE at *
  revert ho
  cases decide (x = (p.cs.getD i.toNat default).a)
  · cases decide (x = (p.cs.getD i.toNat default).b)
    · intro h; simp at h
    · intro _; exact h1
  · intro _; exact h2
end Go.Proofs.YtcdepkflghcjpaaDoor
namespace Go.Proofs.YtcdepkflghcjpaaDoor
set_option linter.unusedSimpArgs false
set_option linter.unusedVariables false
open Go.RowKit
set_option maxRecDepth 20000

theorem ev_step (l : List Int) (x : Int) (f : Bool) (y : Int) : Ev Tryd.prog 58 [.agg [intsV l], .agg [.sc (.int .i64 x), .sc (.bool f)], .sc (.int .i64 y)] (.tup [.agg [.sc (.int .i64 y), .sc (.bool (!aboveB l y x))], .sc (.bool (!aboveB l y x || !f))]) := by
  have h1 := ev_above l y x
  unfold intsV at *
  refine ev_fn Tryd.func58 comp58 (show 3 ≤ Tryd.f58.ntmps by decide) ?_; unfold cf58 rf58; simp only [↓EVP0, EVQ0, EVQ1, EVQ2, EVQ3, EVQ4, EVA, EVK, EVF, ↓reduceIte, Nat.reduceEqDiff, Nat.reduceAdd, Nat.reduceSub, Nat.reduceMul, Nat.reduceLT, Nat.reduceLeDiff, reduceCtorEq, Int.reduceToNat, Int.reduceLT, Int.reduceLE, Int.reduceAdd, Int.reduceSub, Int.reduceMul, Int.reduceNeg, Int.reduceEq, Nat.reduceMod, forall_eq_or_imp, forall_eq, forall_const, cond_true, cond_false, decide_true, decide_false, true_imp_iff, implies_true, Int.cast_ofNat_Int, forall_eq']
  refine callK_ro (h1) ?_ ?_
  · simp only [↓EVP0, EVQ0, EVQ1, EVQ2, EVQ3, EVQ4, EVA, EVK, EVF, ↓reduceIte, Nat.reduceEqDiff, Nat.reduceAdd, Nat.reduceSub, Nat.reduceMul, Nat.reduceLT, Nat.reduceLeDiff, reduceCtorEq, Int.reduceToNat, Int.reduceLT, Int.reduceLE, Int.reduceAdd, Int.reduceSub, Int.reduceMul, Int.reduceNeg, Int.reduceEq, Nat.reduceMod, forall_eq_or_imp, forall_eq, forall_const, cond_true, cond_false, decide_true, decide_false, true_imp_iff, implies_true, Int.cast_ofNat_Int, forall_eq']
  simp only [↓EVP0, EVQ0, EVQ1, EVQ2, EVQ3, EVQ4, EVA, EVK, EVF, ↓reduceIte, Nat.reduceEqDiff, Nat.reduceAdd, Nat.reduceSub, Nat.reduceMul, Nat.reduceLT, Nat.reduceLeDiff, reduceCtorEq, Int.reduceToNat, Int.reduceLT, Int.reduceLE, Int.reduceAdd, Int.reduceSub, Int.reduceMul, Int.reduceNeg, Int.reduceEq, Nat.reduceMod, forall_eq_or_imp, forall_eq, forall_const, cond_true, cond_false, decide_true, decide_false, true_imp_iff, implies_true, Int.cast_ofNat_Int, forall_eq']
  simp only [condT]
def stpE (l : List Int) (x y : Int) : Int := bif aboveB l y x then 1 else bif aboveB l x y then 2 else 0
theorem ev_Step (l : List Int) (x y : Int) : Ev Tryd.prog 45 [intsV l, .sc (.int .i64 x), .sc (.int .i64 y)] (.sc (.int .i64 (stpE l x y))) := by
  have h1 := ev_refAbove l
  unfold intsV at *
  refine ev_fn Tryd.func45 comp45 (show 3 ≤ Tryd.f45.ntmps by decide) ?_; unfold cf45 rf45; simp only [↓EVP0, EVQ0, EVQ1, EVQ2, EVQ3, EVQ4, EVA, EVK, EVF, ↓reduceIte, Nat.reduceEqDiff, Nat.reduceAdd, Nat.reduceSub, Nat.reduceMul, Nat.reduceLT, Nat.reduceLeDiff, reduceCtorEq, Int.reduceToNat, Int.reduceLT, Int.reduceLE, Int.reduceAdd, Int.reduceSub, Int.reduceMul, Int.reduceNeg, Int.reduceEq, Nat.reduceMod, forall_eq_or_imp, forall_eq, forall_const, cond_true, cond_false, decide_true, decide_false, true_imp_iff, implies_true, Int.cast_ofNat_Int, forall_eq']
  refine callK_ro (h1 y x) ?_ ?_
  · simp only [↓EVP0, EVQ0, EVQ1, EVQ2, EVQ3, EVQ4, EVA, EVK, EVF, ↓reduceIte, Nat.reduceEqDiff, Nat.reduceAdd, Nat.reduceSub, Nat.reduceMul, Nat.reduceLT, Nat.reduceLeDiff, reduceCtorEq, Int.reduceToNat, Int.reduceLT, Int.reduceLE, Int.reduceAdd, Int.reduceSub, Int.reduceMul, Int.reduceNeg, Int.reduceEq, Nat.reduceMod, forall_eq_or_imp, forall_eq, forall_const, cond_true, cond_false, decide_true, decide_false, true_imp_iff, implies_true, Int.cast_ofNat_Int, forall_eq']
  simp only [↓EVP0, EVQ0, EVQ1, EVQ2, EVQ3, EVQ4, EVA, EVK, EVF, ↓reduceIte, Nat.reduceEqDiff, Nat.reduceAdd, Nat.reduceSub, Nat.reduceMul, Nat.reduceLT, Nat.reduceLeDiff, reduceCtorEq, Int.reduceToNat, Int.reduceLT, Int.reduceLE, Int.reduceAdd, Int.reduceSub, Int.reduceMul, Int.reduceNeg, Int.reduceEq, Nat.reduceMod, forall_eq_or_imp, forall_eq, forall_const, cond_true, cond_false, decide_true, decide_false, true_imp_iff, implies_true, Int.cast_ofNat_Int, forall_eq']
  unfold stpE
  refine ⟨fun h => by rw [h]; rfl, fun h => ?_⟩
  refine callK_ro (h1 x y) ?_ ?_
  · simp only [↓EVP0, EVQ0, EVQ1, EVQ2, EVQ3, EVQ4, EVA, EVK, EVF, ↓reduceIte, Nat.reduceEqDiff, Nat.reduceAdd, Nat.reduceSub, Nat.reduceMul, Nat.reduceLT, Nat.reduceLeDiff, reduceCtorEq, Int.reduceToNat, Int.reduceLT, Int.reduceLE, Int.reduceAdd, Int.reduceSub, Int.reduceMul, Int.reduceNeg, Int.reduceEq, Nat.reduceMod, forall_eq_or_imp, forall_eq, forall_const, cond_true, cond_false, decide_true, decide_false, true_imp_iff, implies_true, Int.cast_ofNat_Int, forall_eq']
  simp only [↓EVP0, EVQ0, EVQ1, EVQ2, EVQ3, EVQ4, EVA, EVK, EVF, ↓reduceIte, Nat.reduceEqDiff, Nat.reduceAdd, Nat.reduceSub, Nat.reduceMul, Nat.reduceLT, Nat.reduceLeDiff, reduceCtorEq, Int.reduceToNat, Int.reduceLT, Int.reduceLE, Int.reduceAdd, Int.reduceSub, Int.reduceMul, Int.reduceNeg, Int.reduceEq, Nat.reduceMod, forall_eq_or_imp, forall_eq, forall_const, cond_true, cond_false, decide_true, decide_false, true_imp_iff, implies_true, Int.cast_ofNat_Int, forall_eq']
  refine ⟨fun h2 => by rw [h, h2]; rfl, fun h2 => by rw [h, h2]; rfl⟩
theorem nodB_in {p : Pl} {x : Int} (h : nodB p x = true) : inN p.ns.length x := by
  unfold nodB at h
  simp only [Bool.and_eq_true, decide_eq_true_eq] at h
  exact h
def lvs (l : List Int) (ns : List Int) : Bool := ns.all fun x => decide (0 ≤ lvl l x)
theorem acr_ne {p : Pl} (hv : validE p = 0) {i x : Int} (h : 0 ≤ i ∧ i < p.cs.length) (ho : (acrE (p.cs.getD i.toNat default) x).2 = true) : (acrE (p.cs.getD i.toNat default) x).1 ≠ x := by
  have hs := (valid_of hv).self _ (cs_mem h.1 h.2)
  unfold acrE at *
  generalize p.cs.getD i.toNat default = c at *
  by_cases h1 : x = c.a
  · rw [decide_eq_true h1]; simp only [cond_true]; intro e; exact hs (by rw [e, h1])
  · rw [decide_eq_false h1] at ho ⊢
    by_cases h2 : x = c.b
    · rw [decide_eq_true h2]; simp only [cond_true, cond_false]; intro e; exact hs (by rw [e, h2])
    · rw [decide_eq_false h2] at ho; simp at ho
theorem hasB_iff {l : List Int} {n : Nat} (hl : l.length = n) {x : Int} (hx : inN n x) : hasB l x = decide (0 ≤ lvl l x) := by
  unfold hasB lvl inN at *
  rw [decide_eq_true (show 0 ≤ x by omega), decide_eq_true (show x < l.length by omega)]; rfl
theorem above_iff {l : List Int} {n : Nat} (hl : l.length = n) {x y : Int} (hx : inN n x) (hy : inN n y) : aboveB l x y = true ↔ 0 ≤ lvl l x ∧ 0 ≤ lvl l y ∧ (lvl l x < lvl l y ∨ lvl l x = lvl l y ∧ x < y) := by
  unfold aboveB
  rw [hasB_iff hl hx, hasB_iff hl hy]
  show ((decide (0 ≤ lvl l x)) && (decide (0 ≤ lvl l y) && (decide (lvl l x < lvl l y) || (decide (lvl l x = lvl l y) && decide (x < y))))) = true ↔ _
  simp only [Bool.and_eq_true, Bool.or_eq_true, decide_eq_true_eq]
end Go.Proofs.YtcdepkflghcjpaaDoor
namespace Go.Proofs.YtcdepkflghcjpaaDoor
set_option linter.unusedSimpArgs false
set_option linter.unusedVariables false
open Go.RowKit
set_option maxRecDepth 20000

end Go.Proofs.YtcdepkflghcjpaaDoor
namespace Go.Proofs.YtcdepkflghcjpaaDoor
set_option linter.unusedSimpArgs false
set_option linter.unusedVariables false
open Go.RowKit
set_option maxRecDepth 20000

abbrev St := Int × Bool
abbrev Mp := List (St × Int)
def skV (s : St) : Value := .agg #[.int .i64 s.1, .bool s.2]
theorem skV_inj {x y : St} (h : skV x = skV y) : x = y := by
  unfold skV at h
  injection h with h
  have h1 : (#[Value.int .i64 x.1, .bool x.2] : Array Value).toList = (#[Value.int .i64 y.1, .bool y.2] : Array Value).toList := by rw [h]
  simp at h1
  exact Prod.ext h1.1 h1.2
def kvM (m : Mp) : List (Value × LV) := m.map fun q => (skV q.1, .sc (.int .i64 q.2))
def lk (s : St) : Mp → Option Int
  | [] => none
  | (t, d) :: r => if t = s then some d else lk s r
def pt (s : St) (d : Int) : Mp → Mp
  | [] => [(s, d)]
  | (t, u) :: r => if t = s then (t, d) :: r else (t, u) :: pt s d r
theorem mfind_kvM (s : St) : ∀ (m : Mp), mfind (kvM m) (skV s) = (lk s m).map fun d => .sc (.int .i64 d)
  | [] => rfl
  | (t, d) :: r => by
    have ih := mfind_kvM s r
    simp only [kvM, List.map_cons, mfind, lk] at ih ⊢
    by_cases h : t = s
    · subst h; simp
    · rw [if_neg (fun e => h (skV_inj e)), if_neg h, ih]
theorem mput_kvM (s : St) (d : Int) : ∀ (m : Mp), mput (kvM m) (skV s) (.sc (.int .i64 d)) = kvM (pt s d m)
  | [] => rfl
  | (t, u) :: r => by
    have ih := mput_kvM s d r
    simp only [kvM, List.map_cons, mput, pt] at ih ⊢
    by_cases h : t = s
    · subst h; simp
    · rw [if_neg (fun e => h (skV_inj e)), if_neg h, ih]; rfl
theorem lk_pt (s t : St) (d : Int) : ∀ (m : Mp), lk t (pt s d m) = if t = s then some d else lk t m
  | [] => by
    simp only [pt, lk]
    by_cases h : t = s
    · rw [if_pos h, if_pos h.symm]
    · rw [if_neg h, if_neg (fun e => h e.symm)]
  | (u, e) :: r => by
    have ih := lk_pt s t d r
    simp only [pt]
    by_cases h : u = s
    · subst h
      rw [if_pos rfl]
      simp only [lk]
      by_cases h2 : u = t
      · subst h2; simp
      · rw [if_neg h2, if_neg h2, if_neg (fun e => h2 e.symm)]
    · rw [if_neg h]
      simp only [lk]
      by_cases h2 : u = t
      · subst h2; rw [if_pos rfl, if_pos rfl, if_neg h]
      · rw [if_neg h2, if_neg h2, ih]
theorem allC_kvM (n : Nat) (m : Mp) : allC n ((kvM m).map (·.2)) := by
  induction m with
  | nil => trivial
  | cons q r ih => exact ⟨trivial, ih⟩
theorem key_ib {P : Program} {t : TypeId} {f0 f1 : Field} (hu : P.underlying t = some (.struct #[f0, f1])) (h0 : P.underlying f0.type = some (.int .i64)) (h1 : P.underlying f1.type = some .bool) (o0 : f0.offset = 0) (o1 : f1.offset = 1)
    (n0 : (f0.name != "_") = true) (n1 : (f1.name != "_") = true) (hk : P.keyType t = true) (hc : P.cellsOf t = 2) (c0 : P.cellsOf f0.type = 1) (c1 : P.cellsOf f1.type = 1) (hz : P.types.size ≠ 0) {a : Int} {b : Bool} (ha : In64 a) :
    (keyOf P t (skV (a, b))).isSome = true := by
  have h2 : (Lit.int .i64 a).wf = true := wf_i64 ha
  obtain ⟨d, hd⟩ : ∃ d, P.types.size = d + 1 := ⟨P.types.size - 1, by omega⟩
  have k0 : P.keyLits P.types.size f0.type [.int .i64 a] = some [.int .i64 a] := by rw [hd]; simp [Program.keyLits, h0, h2]
  have k1 : P.keyLits P.types.size f1.type [.bool b] = some [.bool b] := by rw [hd]; simp [Program.keyLits, h1]
  simp only [bne_iff_ne, ne_eq] at n0 n1
  simp [skV, keyOf, hu, hk, Value.formed, hc, Program.keyLits, Value.cells, o0, o1, c0, c1, k0, k1, n0, n1]
theorem key_st (s : St) (hs : In64 s.1) : (keyOf Tryd.prog 102 (skV s)).isSome = true := by
  exact key_ib Tryd.underlying102 (by kernel_rfl) (by kernel_rfl) rfl rfl (by decide) (by decide) (by kernel_rfl) (by kernel_rfl) (by kernel_rfl) (by kernel_rfl) (ne_of_beq_false (by kernel_rfl)) hs
theorem keys_kvM {m : Mp} {s : St} (hm : ∀ q, q ∈ m → In64 q.1.1) (hs : In64 s.1) : keysOk Tryd.prog 102 (kvM m) (skV s) := by
  refine ⟨key_st s hs, fun kv hkv => ?_⟩
  simp only [kvM, List.mem_map] at hkv
  obtain ⟨q, hq, rfl⟩ := hkv
  exact key_st _ (hm q hq)
def mOk (m : Mp) : Prop := ∀ q, q ∈ m → In64 q.1.1
def imp (l : List Int) (m : Mp) (s : St) (y : Int) : Mp × Bool :=
  match lk (y, !aboveB l y s.1) m with
  | none => (m, false)
  | some d => bif !aboveB l y s.1 || !s.2 then (match lk s m with
    | some o => if o ≤ d + 1 then (m, false) else (pt s (d + 1) m, true)
    | none => (pt s (d + 1) m, true)) else (m, false)
def sH (p : Pl) (l : List Int) (up : List Bool) (m : Mp) : List (Nat × LO) := [(0, .box [.rsl 3 p.ns.length (ndsF p.ns), .rsl 6 p.cs.length (cbsF p.cs)]), (0, .box [.rsl 1 l.length (intsF l)]), (0, .box [.rsl 1 up.length (boolsF up)]), (0, .map (kvM m)), (0, .box [.mp 3 0]), (0, .box [.fn 81 [.ptr 1 0 0 0 0, .ptr 4 0 0 0 0]])]
theorem ev_imp (p : Pl) (l : List Int) (m : Mp) (hm : mOk m) (up : List Bool) (s : St) (hs : In64 s.1) (y : Int) (hy : In64 y) (hd : ∀ t d, lk t m = some d → In64 (d + 1)) (ob : List LV) (hob : allC 7 ob) :
    LCall Tryd.prog 81 [.agg [.sc (.int .i64 s.1), .sc (.bool s.2)], .sc (.int .i64 y), .ptr 1 0 0 0 0, .ptr 4 0 0 0 0]
      (mkH (sH p l up m ++ [(0, .box ob)])) (.sc (.bool (imp l m s y).2)) (mkH (sH p l up (imp l m s y).1 ++ [(0, .box ob)])) := by
  have h3 := ev_step l s.1 s.2 y
  unfold intsV at h3
  refine lcall_of_lwp Tryd.func81 comp81 (show 4 ≤ Tryd.f81.ntmps by decide) (by simp [sH, mkH]) ?_
  unfold cf81 rf81 sH
  simp only [↓EVP0, EVQ0, EVQ1, EVQ2, EVQ3, EVQ4, EVA, EVK, EVF, ↓reduceIte, Nat.reduceEqDiff, Nat.reduceAdd, Nat.reduceSub, Nat.reduceMul, Nat.reduceLT, Nat.reduceLeDiff, reduceCtorEq, Int.reduceToNat, Int.reduceLT, Int.reduceLE, Int.reduceAdd, Int.reduceSub, Int.reduceMul, Int.reduceNeg, Int.reduceEq, Nat.reduceMod, forall_eq_or_imp, forall_eq, forall_const, cond_true, cond_false, decide_true, decide_false, true_imp_iff, implies_true, Int.cast_ofNat_Int, forall_eq']
  refine callK_ro (h3) ?_ ?_
  · simp only [↓EVP0, EVQ0, EVQ1, EVQ2, EVQ3, EVQ4, EVA, EVK, EVF, ↓reduceIte, Nat.reduceEqDiff, Nat.reduceAdd, Nat.reduceSub, Nat.reduceMul, Nat.reduceLT, Nat.reduceLeDiff, reduceCtorEq, Int.reduceToNat, Int.reduceLT, Int.reduceLE, Int.reduceAdd, Int.reduceSub, Int.reduceMul, Int.reduceNeg, Int.reduceEq, Nat.reduceMod, forall_eq_or_imp, forall_eq, forall_const, cond_true, cond_false, decide_true, decide_false, true_imp_iff, implies_true, Int.cast_ofNat_Int, forall_eq']
  simp only [↓EVP0, EVQ0, EVQ1, EVQ2, EVQ3, EVQ4, EVA, EVK, EVF, ↓reduceIte, Nat.reduceEqDiff, Nat.reduceAdd, Nat.reduceSub, Nat.reduceMul, Nat.reduceLT, Nat.reduceLeDiff, reduceCtorEq, Int.reduceToNat, Int.reduceLT, Int.reduceLE, Int.reduceAdd, Int.reduceSub, Int.reduceMul, Int.reduceNeg, Int.reduceEq, Nat.reduceMod, forall_eq_or_imp, forall_eq, forall_const, cond_true, cond_false, decide_true, decide_false, true_imp_iff, implies_true, Int.cast_ofNat_Int, forall_eq']
  have e1 : mfind (kvM m) (Value.agg #[Value.int IntKind.i64 y, Value.bool !aboveB l y s.1]) = (lk (y, !aboveB l y s.1) m).map fun d => .sc (.int .i64 d) := mfind_kvM (y, !aboveB l y s.1) m
  have e2 : mfind (kvM m) (Value.agg #[Value.int IntKind.i64 s.1, Value.bool s.2]) = (lk s m).map fun d => .sc (.int .i64 d) := mfind_kvM s m
  have e3 : ∀ d, mput (kvM m) (Value.agg #[Value.int IntKind.i64 s.1, Value.bool s.2]) (.sc (.int .i64 d)) = kvM (pt s d m) := fun d => mput_kvM s d m
  have k1 : keysOk Tryd.prog 102 (kvM m) (Value.agg #[Value.int IntKind.i64 y, Value.bool !aboveB l y s.1]) := keys_kvM (s := (y, !aboveB l y s.1)) hm hy
  have k2 : keysOk Tryd.prog 102 (kvM m) (Value.agg #[Value.int IntKind.i64 s.1, Value.bool s.2]) := keys_kvM (s := s) hm hs
  have a1 : ∀ m : Mp, allC 7 ((kvM m).map (·.2)) := allC_kvM 7
  simp only [e1, e2, e3]
  have hd1 := hd (y, !aboveB l y s.1)
  unfold imp
  generalize aboveB l y s.1 = u at *
  rcases hq : lk (y, !u) m with _ | d
  · rcases hr : lk s m with _ | o <;> simp only [Option.map_some, Option.map_none, Option.getD_some, Option.getD_none, Option.isSome_some, Option.isSome_none]
    all_goals
      simp only [↓EVP0, EVQ0, EVQ1, EVQ2, EVQ3, EVQ4, EVA, EVK, EVF, ↓reduceIte, Nat.reduceEqDiff, Nat.reduceAdd, Nat.reduceSub, Nat.reduceMul, Nat.reduceLT, Nat.reduceLeDiff, reduceCtorEq, Int.reduceToNat, Int.reduceLT, Int.reduceLE, Int.reduceAdd, Int.reduceSub, Int.reduceMul, Int.reduceNeg, Int.reduceEq, Nat.reduceMod, forall_eq_or_imp, forall_eq, forall_const, cond_true, cond_false, decide_true, decide_false, true_imp_iff, implies_true, Int.cast_ofNat_Int, forall_eq']
      cases hg : (!u || !s.2)
      all_goals
        simp only [↓EVP0, EVQ0, EVQ1, EVQ2, EVQ3, EVQ4, EVA, EVK, EVF, ↓reduceIte, Nat.reduceEqDiff, Nat.reduceAdd, Nat.reduceSub, Nat.reduceMul, Nat.reduceLT, Nat.reduceLeDiff, reduceCtorEq, Int.reduceToNat, Int.reduceLT, Int.reduceLE, Int.reduceAdd, Int.reduceSub, Int.reduceMul, Int.reduceNeg, Int.reduceEq, Nat.reduceMod, forall_eq_or_imp, forall_eq, forall_const, cond_true, cond_false, decide_true, decide_false, true_imp_iff, implies_true, Int.cast_ofNat_Int, forall_eq']
        unfold fin2
        simp only [↓EVP0, EVQ0, EVQ1, EVQ2, EVQ3, EVQ4, EVA, EVK, EVF, ↓reduceIte, Nat.reduceEqDiff, Nat.reduceAdd, Nat.reduceSub, Nat.reduceMul, Nat.reduceLT, Nat.reduceLeDiff, reduceCtorEq, Int.reduceToNat, Int.reduceLT, Int.reduceLE, Int.reduceAdd, Int.reduceSub, Int.reduceMul, Int.reduceNeg, Int.reduceEq, Nat.reduceMod, forall_eq_or_imp, forall_eq, forall_const, cond_true, cond_false, decide_true, decide_false, true_imp_iff, implies_true, Int.cast_ofNat_Int, forall_eq']
        exact ⟨k1, k2, a1 m, hob⟩
  · have hd2 := hd1 d hq
    rcases hr : lk s m with _ | o <;> simp only [Option.map_some, Option.map_none, Option.getD_some, Option.getD_none, Option.isSome_some, Option.isSome_none]
    all_goals
      simp only [↓EVP0, EVQ0, EVQ1, EVQ2, EVQ3, EVQ4, EVA, EVK, EVF, ↓reduceIte, Nat.reduceEqDiff, Nat.reduceAdd, Nat.reduceSub, Nat.reduceMul, Nat.reduceLT, Nat.reduceLeDiff, reduceCtorEq, Int.reduceToNat, Int.reduceLT, Int.reduceLE, Int.reduceAdd, Int.reduceSub, Int.reduceMul, Int.reduceNeg, Int.reduceEq, Nat.reduceMod, forall_eq_or_imp, forall_eq, forall_const, cond_true, cond_false, decide_true, decide_false, true_imp_iff, implies_true, Int.cast_ofNat_Int, forall_eq']
      cases hg : (!u || !s.2)
      · simp only [↓EVP0, EVQ0, EVQ1, EVQ2, EVQ3, EVQ4, EVA, EVK, EVF, ↓reduceIte, Nat.reduceEqDiff, Nat.reduceAdd, Nat.reduceSub, Nat.reduceMul, Nat.reduceLT, Nat.reduceLeDiff, reduceCtorEq, Int.reduceToNat, Int.reduceLT, Int.reduceLE, Int.reduceAdd, Int.reduceSub, Int.reduceMul, Int.reduceNeg, Int.reduceEq, Nat.reduceMod, forall_eq_or_imp, forall_eq, forall_const, cond_true, cond_false, decide_true, decide_false, true_imp_iff, implies_true, Int.cast_ofNat_Int, forall_eq']
        unfold fin2
        simp only [↓EVP0, EVQ0, EVQ1, EVQ2, EVQ3, EVQ4, EVA, EVK, EVF, ↓reduceIte, Nat.reduceEqDiff, Nat.reduceAdd, Nat.reduceSub, Nat.reduceMul, Nat.reduceLT, Nat.reduceLeDiff, reduceCtorEq, Int.reduceToNat, Int.reduceLT, Int.reduceLE, Int.reduceAdd, Int.reduceSub, Int.reduceMul, Int.reduceNeg, Int.reduceEq, Nat.reduceMod, forall_eq_or_imp, forall_eq, forall_const, cond_true, cond_false, decide_true, decide_false, true_imp_iff, implies_true, Int.cast_ofNat_Int, forall_eq']
        exact ⟨k1, k2, a1 m, hob⟩
      · simp only [↓EVP0, EVQ0, EVQ1, EVQ2, EVQ3, EVQ4, EVA, EVK, EVF, ↓reduceIte, Nat.reduceEqDiff, Nat.reduceAdd, Nat.reduceSub, Nat.reduceMul, Nat.reduceLT, Nat.reduceLeDiff, reduceCtorEq, Int.reduceToNat, Int.reduceLT, Int.reduceLE, Int.reduceAdd, Int.reduceSub, Int.reduceMul, Int.reduceNeg, Int.reduceEq, Nat.reduceMod, forall_eq_or_imp, forall_eq, forall_const, cond_true, cond_false, decide_true, decide_false, true_imp_iff, implies_true, Int.cast_ofNat_Int, forall_eq']
        unfold fin2
        simp only [↓EVP0, EVQ0, EVQ1, EVQ2, EVQ3, EVQ4, EVA, EVK, EVF, ↓reduceIte, Nat.reduceEqDiff, Nat.reduceAdd, Nat.reduceSub, Nat.reduceMul, Nat.reduceLT, Nat.reduceLeDiff, reduceCtorEq, Int.reduceToNat, Int.reduceLT, Int.reduceLE, Int.reduceAdd, Int.reduceSub, Int.reduceMul, Int.reduceNeg, Int.reduceEq, Nat.reduceMod, forall_eq_or_imp, forall_eq, forall_const, cond_true, cond_false, decide_true, decide_false, true_imp_iff, implies_true, Int.cast_ofNat_Int, forall_eq']
        first
          | exact ⟨k1, k2, hd2, k2, e3 _, a1 _, hob⟩
          | refine ⟨k1, k2, hd2, fun h => ?_, fun h => ?_⟩
            · rw [if_pos (of_decide_eq_true h)]; exact ⟨rfl, rfl, a1 _, hob⟩
            · rw [if_neg (of_decide_eq_false h)]; exact ⟨hd2, k2, rfl, e3 _, a1 _, hob⟩
end Go.Proofs.YtcdepkflghcjpaaDoor
