/- Chapter 17's Above and what it needs; equality of lists; Chapter 17's small helpers of the statements; Chapter 17's Valid; Chapter 17's Upward and Least; the reference's Other; Distances by relaxing all cables again and again: the plain law, and the reference's levels; The reference's levels: the program's own steps; The reference's order: Above, Least, Fits; A valid order by the program and by the reference; the example of the chapter; The reference's Valid of chapter 14; Paths in a plan and their nodes; Steps of paths, and legal paths; The reference's Legal; Maps from states of paths to lengths. Conditions: none. -/
import Derived.Test.YtcdepkflghcjpaaDoorME
namespace Go.Proofs.YtcdepkflghcjpaaDoor
set_option linter.unusedSimpArgs false
set_option linter.unusedVariables false
open Go.RowKit
set_option maxRecDepth 20000

theorem roTo2_cell {h : LH} {k ver : Nat} {z n : Nat} {f : Nat → List LV} (hk : k < h.n) (hv : h.f k = (ver, .box [.rsl z n f])) : roTo2 h (.ptr k ver 0 0 0) (.rptr [.rsl z n f]) := by
  refine ⟨hk, by rw [hv], rfl, rfl, rfl, ?_⟩
  rw [hv]
  exact ⟨by rw [roTo1_rsl], trivial⟩
theorem ev_isNaN (x : Int) : Ev Tryd.prog 95 [.sc (.int .i64 x)] (.sc (.bool false)) := by
  refine ev_fn Tryd.func95 comp95 (show 1 ≤ Tryd.f95.ntmps by decide) ?_; unfold cf95 rf95; simp only [↓EVP0, EVQ0, EVQ1, EVQ2, EVQ3, EVQ4, EVA, EVK, EVF, ↓reduceIte, Nat.reduceEqDiff, Nat.reduceAdd, Nat.reduceSub, Nat.reduceMul, Nat.reduceLT, Nat.reduceLeDiff, reduceCtorEq, Int.reduceToNat, Int.reduceLT, Int.reduceLE, Int.reduceAdd, Int.reduceSub, Int.reduceMul, Int.reduceNeg, Int.reduceEq, Nat.reduceMod, forall_eq_or_imp, forall_eq, forall_const, cond_true, cond_false, decide_true, decide_false, true_imp_iff, implies_true, Int.cast_ofNat_Int, forall_eq']
def cmpI (x y : Int) : Int := bif decide (x < y) then -1 else bif decide (y < x) then 1 else 0
theorem ev_compare (x y : Int) : Ev Tryd.prog 74 [.sc (.int .i64 x), .sc (.int .i64 y)] (.sc (.int .i64 (cmpI x y))) := by
  refine ev_fn Tryd.func74 comp74 (show 2 ≤ Tryd.f74.ntmps by decide) ?_; unfold cf74 rf74; simp only [↓EVP0, EVQ0, EVQ1, EVQ2, EVQ3, EVQ4, EVA, EVK, EVF, ↓reduceIte, Nat.reduceEqDiff, Nat.reduceAdd, Nat.reduceSub, Nat.reduceMul, Nat.reduceLT, Nat.reduceLeDiff, reduceCtorEq, Int.reduceToNat, Int.reduceLT, Int.reduceLE, Int.reduceAdd, Int.reduceSub, Int.reduceMul, Int.reduceNeg, Int.reduceEq, Nat.reduceMod, forall_eq_or_imp, forall_eq, forall_const, cond_true, cond_false, decide_true, decide_false, true_imp_iff, implies_true, Int.cast_ofNat_Int, forall_eq']
  refine callK_ro (ev_isNaN x) ?_ ?_
  · simp only [↓EVP0, EVQ0, EVQ1, EVQ2, EVQ3, EVQ4, EVA, EVK, EVF, ↓reduceIte, Nat.reduceEqDiff, Nat.reduceAdd, Nat.reduceSub, Nat.reduceMul, Nat.reduceLT, Nat.reduceLeDiff, reduceCtorEq, Int.reduceToNat, Int.reduceLT, Int.reduceLE, Int.reduceAdd, Int.reduceSub, Int.reduceMul, Int.reduceNeg, Int.reduceEq, Nat.reduceMod, forall_eq_or_imp, forall_eq, forall_const, cond_true, cond_false, decide_true, decide_false, true_imp_iff, implies_true, Int.cast_ofNat_Int, forall_eq']
  simp only [↓EVP0, EVQ0, EVQ1, EVQ2, EVQ3, EVQ4, EVA, EVK, EVF, ↓reduceIte, Nat.reduceEqDiff, Nat.reduceAdd, Nat.reduceSub, Nat.reduceMul, Nat.reduceLT, Nat.reduceLeDiff, reduceCtorEq, Int.reduceToNat, Int.reduceLT, Int.reduceLE, Int.reduceAdd, Int.reduceSub, Int.reduceMul, Int.reduceNeg, Int.reduceEq, Nat.reduceMod, forall_eq_or_imp, forall_eq, forall_const, cond_true, cond_false, decide_true, decide_false, true_imp_iff, implies_true, Int.cast_ofNat_Int, forall_eq']
  refine callK_ro (ev_isNaN y) ?_ ?_
  · simp only [↓EVP0, EVQ0, EVQ1, EVQ2, EVQ3, EVQ4, EVA, EVK, EVF, ↓reduceIte, Nat.reduceEqDiff, Nat.reduceAdd, Nat.reduceSub, Nat.reduceMul, Nat.reduceLT, Nat.reduceLeDiff, reduceCtorEq, Int.reduceToNat, Int.reduceLT, Int.reduceLE, Int.reduceAdd, Int.reduceSub, Int.reduceMul, Int.reduceNeg, Int.reduceEq, Nat.reduceMod, forall_eq_or_imp, forall_eq, forall_const, cond_true, cond_false, decide_true, decide_false, true_imp_iff, implies_true, Int.cast_ofNat_Int, forall_eq']
  simp only [↓EVP0, EVQ0, EVQ1, EVQ2, EVQ3, EVQ4, EVA, EVK, EVF, ↓reduceIte, Nat.reduceEqDiff, Nat.reduceAdd, Nat.reduceSub, Nat.reduceMul, Nat.reduceLT, Nat.reduceLeDiff, reduceCtorEq, Int.reduceToNat, Int.reduceLT, Int.reduceLE, Int.reduceAdd, Int.reduceSub, Int.reduceMul, Int.reduceNeg, Int.reduceEq, Nat.reduceMod, forall_eq_or_imp, forall_eq, forall_const, cond_true, cond_false, decide_true, decide_false, true_imp_iff, implies_true, Int.cast_ofNat_Int, forall_eq']
  refine ⟨fun h => by simp [cmpI, h], fun h => ⟨fun h2 => by simp [cmpI, h, h2], fun h2 => by simp [cmpI, h, h2]⟩⟩
def orI : List Int → Int
  | [] => 0
  | x :: r => bif decide (x = 0) then orI r else x
theorem orI_take (l : List Int) (i : Nat) (hi : i < l.length) (h : ∀ j, j < i → l.getD j 0 = 0) : orI l = orI (l.drop i) := by
  induction i generalizing l with
  | zero => rfl
  | succ i ih =>
    cases l with
    | nil => simp at hi
    | cons x r =>
      have h0 := h 0 (by omega)
      simp only [List.getD_cons_zero] at h0
      have := ih r (by simpa using hi) (fun j hj => by have := h (j + 1) (by omega); simpa using this)
      simp only [orI, h0, decide_true, cond_true, List.drop_succ_cons]
      exact this
theorem ev_or (l : List Int) : Ev Tryd.prog 73 [intsV l] (.sc (.int .i64 (orI l))) := by
  unfold intsV
  refine ev_fn Tryd.func73 comp73 (show 1 ≤ Tryd.f73.ntmps by decide) ?_; unfold cf73 rf73; simp only [↓EVP0, EVQ0, EVQ1, EVQ2, EVQ3, EVQ4, EVA, EVK, EVF, ↓reduceIte, Nat.reduceEqDiff, Nat.reduceAdd, Nat.reduceSub, Nat.reduceMul, Nat.reduceLT, Nat.reduceLeDiff, reduceCtorEq, Int.reduceToNat, Int.reduceLT, Int.reduceLE, Int.reduceAdd, Int.reduceSub, Int.reduceMul, Int.reduceNeg, Int.reduceEq, Nat.reduceMod, forall_eq_or_imp, forall_eq, forall_const, cond_true, cond_false, decide_true, decide_false, true_imp_iff, implies_true, Int.cast_ofNat_Int, forall_eq']
  intro hl
  refine lwp_for (α := Unit) l.length (fun i _ => ∀ j, j < i → l.getD j 0 = 0) (fun i _ => [(3, .sc (.int .i64 0)), (6, .rsl 1 l.length (intsF l)), (7, .sc (.int .i64 l.length)), (8, .sc (.int .i64 i))]) (fun _ _ => []) () (fun j hj => absurd hj (Nat.not_lt_zero _)) ?_ (fun _ _ => Nat.zero_le _) ?_
  · simp only [↓EVP0, EVQ0, EVQ1, EVQ2, EVQ3, EVQ4, EVA, EVK, EVF, ↓reduceIte, Nat.reduceEqDiff, Nat.reduceAdd, Nat.reduceSub, Nat.reduceMul, Nat.reduceLT, Nat.reduceLeDiff, reduceCtorEq, Int.reduceToNat, Int.reduceLT, Int.reduceLE, Int.reduceAdd, Int.reduceSub, Int.reduceMul, Int.reduceNeg, Int.reduceEq, Nat.reduceMod, forall_eq_or_imp, forall_eq, forall_const, cond_true, cond_false, decide_true, decide_false, true_imp_iff, implies_true, Int.cast_ofNat_Int, forall_eq']
  intro i _ hi hx
  unfold lb73_0
  simp only [↓EVP0, EVQ0, EVQ1, EVQ2, EVQ3, EVQ4, EVA, EVK, EVF, ↓reduceIte, Nat.reduceEqDiff, Nat.reduceAdd, Nat.reduceSub, Nat.reduceMul, Nat.reduceLT, Nat.reduceLeDiff, reduceCtorEq, Int.reduceToNat, Int.reduceLT, Int.reduceLE, Int.reduceAdd, Int.reduceSub, Int.reduceMul, Int.reduceNeg, Int.reduceEq, Nat.reduceMod, forall_eq_or_imp, forall_eq, forall_const, cond_true, cond_false, decide_true, decide_false, true_imp_iff, implies_true, Int.cast_ofNat_Int, forall_eq']
  refine ⟨fun hg => ?_, fun hg => ?_⟩
  · have hi2 : i < l.length := by simpa using hg
    have hd : orI l = orI (l.getD i 0 :: l.drop (i + 1)) := by
      rw [orI_take l i hi2 hx, List.drop_eq_getElem_cons hi2, List.getD_eq_getElem?_getD, List.getElem?_eq_getElem hi2]; rfl
    refine ⟨⟨by omega, by omega⟩, fun h => ?_, fun h => ⟨by unfold In64; omega, hi2, (), fun j hj => ?_⟩⟩
    · rw [hd]; simp at h; simp [orI, h]
    · by_cases e : j = i
      · subst e; simpa using h
      · exact hx j (by omega)
  · have hii : i = l.length := by simp at hg; omega
    have : ∀ (l : List Int), (∀ j, j < l.length → l.getD j 0 = 0) → orI l = 0 := by
      intro l
      induction l with
      | nil => intro _; rfl
      | cons x r ih =>
        intro h
        have h0 := h 0 (by simp)
        simp only [List.getD_cons_zero] at h0
        simp only [orI, h0, decide_true, cond_true]
        exact ih (fun j hj => by have := h (j + 1) (by simpa using hj); simpa using this)
    rw [this l (by subst hii; exact hx)]
def hasB (l : List Int) (x : Int) : Bool := decide (0 ≤ x) && (decide (x < l.length) && decide (0 ≤ l.getD x.toNat 0))
theorem ev_has (l : List Int) (x : Int) : Ev Tryd.prog 72 [.sc (.int .i64 x), .rptr [intsV l]] (.sc (.bool (hasB l x))) := by
  unfold intsV
  refine ev_fn Tryd.func72 comp72 (show 2 ≤ Tryd.f72.ntmps by decide) ?_; unfold cf72 rf72; simp only [↓EVP0, EVQ0, EVQ1, EVQ2, EVQ3, EVQ4, EVA, EVK, EVF, ↓reduceIte, Nat.reduceEqDiff, Nat.reduceAdd, Nat.reduceSub, Nat.reduceMul, Nat.reduceLT, Nat.reduceLeDiff, reduceCtorEq, Int.reduceToNat, Int.reduceLT, Int.reduceLE, Int.reduceAdd, Int.reduceSub, Int.reduceMul, Int.reduceNeg, Int.reduceEq, Nat.reduceMod, forall_eq_or_imp, forall_eq, forall_const, cond_true, cond_false, decide_true, decide_false, true_imp_iff, implies_true, Int.cast_ofNat_Int, forall_eq']
  refine ⟨fun hg => ?_, ?_⟩
  · revert hg; cases h : decide (0 ≤ x) <;> simp at h ⊢; omega
  · unfold hasB; cases decide (0 ≤ x) <;> cases decide (x < l.length) <;> simp
def aboveB (l : List Int) (a b : Int) : Bool := hasB l a && (hasB l b && (decide (l.getD a.toNat 0 < l.getD b.toNat 0) || (decide (l.getD a.toNat 0 = l.getD b.toNat 0) && decide (a < b))))
theorem ev_above (l : List Int) (a b : Int) : Ev Tryd.prog 40 [.agg [intsV l], .sc (.int .i64 a), .sc (.int .i64 b)] (.sc (.bool (aboveB l a b))) := by
  have h28 := ev_has l
  unfold intsV at *
  refine ev_fn Tryd.func40 comp40 (show 3 ≤ Tryd.f40.ntmps by decide) ?_; unfold cf40 rf40; simp only [↓EVP0, EVQ0, EVQ1, EVQ2, EVQ3, EVQ4, EVA, EVK, EVF, ↓reduceIte, Nat.reduceEqDiff, Nat.reduceAdd, Nat.reduceSub, Nat.reduceMul, Nat.reduceLT, Nat.reduceLeDiff, reduceCtorEq, Int.reduceToNat, Int.reduceLT, Int.reduceLE, Int.reduceAdd, Int.reduceSub, Int.reduceMul, Int.reduceNeg, Int.reduceEq, Nat.reduceMod, forall_eq_or_imp, forall_eq, forall_const, cond_true, cond_false, decide_true, decide_false, true_imp_iff, implies_true, Int.cast_ofNat_Int, forall_eq']
  refine ⟨by decide, callK_frz (h28 a) ?_ ?_ ?_⟩
  · simp only [↓EVP0, EVQ0, EVQ1, EVQ2, EVQ3, EVQ4, EVA, EVK, EVF, ↓reduceIte, Nat.reduceEqDiff, Nat.reduceAdd, Nat.reduceSub, Nat.reduceMul, Nat.reduceLT, Nat.reduceLeDiff, reduceCtorEq, Int.reduceToNat, Int.reduceLT, Int.reduceLE, Int.reduceAdd, Int.reduceSub, Int.reduceMul, Int.reduceNeg, Int.reduceEq, Nat.reduceMod, forall_eq_or_imp, forall_eq, forall_const, cond_true, cond_false, decide_true, decide_false, true_imp_iff, implies_true, Int.cast_ofNat_Int, forall_eq']
    exact roTo2_cell (by simp [mkH]) rfl
  · simp only [↓EVP0, EVQ0, EVQ1, EVQ2, EVQ3, EVQ4, EVA, EVK, EVF, ↓reduceIte, Nat.reduceEqDiff, Nat.reduceAdd, Nat.reduceSub, Nat.reduceMul, Nat.reduceLT, Nat.reduceLeDiff, reduceCtorEq, Int.reduceToNat, Int.reduceLT, Int.reduceLE, Int.reduceAdd, Int.reduceSub, Int.reduceMul, Int.reduceNeg, Int.reduceEq, Nat.reduceMod, forall_eq_or_imp, forall_eq, forall_const, cond_true, cond_false, decide_true, decide_false, true_imp_iff, implies_true, Int.cast_ofNat_Int, forall_eq']
  simp only [↓EVP0, EVQ0, EVQ1, EVQ2, EVQ3, EVQ4, EVA, EVK, EVF, ↓reduceIte, Nat.reduceEqDiff, Nat.reduceAdd, Nat.reduceSub, Nat.reduceMul, Nat.reduceLT, Nat.reduceLeDiff, reduceCtorEq, Int.reduceToNat, Int.reduceLT, Int.reduceLE, Int.reduceAdd, Int.reduceSub, Int.reduceMul, Int.reduceNeg, Int.reduceEq, Nat.reduceMod, forall_eq_or_imp, forall_eq, forall_const, cond_true, cond_false, decide_true, decide_false, true_imp_iff, implies_true, Int.cast_ofNat_Int, forall_eq']
  refine lops_ge_imp ?_
  simp only [↓EVP0, EVQ0, EVQ1, EVQ2, EVQ3, EVQ4, EVA, EVK, EVF, ↓reduceIte, Nat.reduceEqDiff, Nat.reduceAdd, Nat.reduceSub, Nat.reduceMul, Nat.reduceLT, Nat.reduceLeDiff, reduceCtorEq, Int.reduceToNat, Int.reduceLT, Int.reduceLE, Int.reduceAdd, Int.reduceSub, Int.reduceMul, Int.reduceNeg, Int.reduceEq, Nat.reduceMod, forall_eq_or_imp, forall_eq, forall_const, cond_true, cond_false, decide_true, decide_false, true_imp_iff, implies_true, Int.cast_ofNat_Int, forall_eq']
  refine ⟨fun hg => ⟨hg, hg, by decide⟩, gCallK_frz _ (fun _ => h28 b) (fun _ => ?_) ?_ ?_⟩
  · simp only [↓EVP0, EVQ0, EVQ1, EVQ2, EVQ3, EVQ4, EVA, EVK, EVF, ↓reduceIte, Nat.reduceEqDiff, Nat.reduceAdd, Nat.reduceSub, Nat.reduceMul, Nat.reduceLT, Nat.reduceLeDiff, reduceCtorEq, Int.reduceToNat, Int.reduceLT, Int.reduceLE, Int.reduceAdd, Int.reduceSub, Int.reduceMul, Int.reduceNeg, Int.reduceEq, Nat.reduceMod, forall_eq_or_imp, forall_eq, forall_const, cond_true, cond_false, decide_true, decide_false, true_imp_iff, implies_true, Int.cast_ofNat_Int, forall_eq']
    exact roTo2_cell (by simp [mkH]) rfl
  · simp only [↓EVP0, EVQ0, EVQ1, EVQ2, EVQ3, EVQ4, EVA, EVK, EVF, ↓reduceIte, Nat.reduceEqDiff, Nat.reduceAdd, Nat.reduceSub, Nat.reduceMul, Nat.reduceLT, Nat.reduceLeDiff, reduceCtorEq, Int.reduceToNat, Int.reduceLT, Int.reduceLE, Int.reduceAdd, Int.reduceSub, Int.reduceMul, Int.reduceNeg, Int.reduceEq, Nat.reduceMod, forall_eq_or_imp, forall_eq, forall_const, cond_true, cond_false, decide_true, decide_false, true_imp_iff, implies_true, Int.cast_ofNat_Int, forall_eq']
  simp only [↓EVP0, EVQ0, EVQ1, EVQ2, EVQ3, EVQ4, EVA, EVK, EVF, ↓reduceIte, Nat.reduceEqDiff, Nat.reduceAdd, Nat.reduceSub, Nat.reduceMul, Nat.reduceLT, Nat.reduceLeDiff, reduceCtorEq, Int.reduceToNat, Int.reduceLT, Int.reduceLE, Int.reduceAdd, Int.reduceSub, Int.reduceMul, Int.reduceNeg, Int.reduceEq, Nat.reduceMod, forall_eq_or_imp, forall_eq, forall_const, cond_true, cond_false, decide_true, decide_false, true_imp_iff, implies_true, Int.cast_ofNat_Int, forall_eq']
  refine ⟨fun hg => ?_, fun hg => ?_⟩
  · unfold aboveB; revert hg; cases hasB l a <;> cases hasB l b <;> simp
  · have hab : hasB l a = true ∧ hasB l b = true := by revert hg; cases hasB l a <;> cases hasB l b <;> simp
    have ha := hab.1
    have hb := hab.2
    simp only [hasB, Bool.and_eq_true, decide_eq_true_eq] at ha hb
    refine ⟨⟨ha.1, ha.2.1⟩, ⟨hb.1, hb.2.1⟩, qCallK_ro (ev_compare _ _) ?_ ?_⟩
    · simp only [↓EVP0, EVQ0, EVQ1, EVQ2, EVQ3, EVQ4, EVA, EVK, EVF, ↓reduceIte, Nat.reduceEqDiff, Nat.reduceAdd, Nat.reduceSub, Nat.reduceMul, Nat.reduceLT, Nat.reduceLeDiff, reduceCtorEq, Int.reduceToNat, Int.reduceLT, Int.reduceLE, Int.reduceAdd, Int.reduceSub, Int.reduceMul, Int.reduceNeg, Int.reduceEq, Nat.reduceMod, forall_eq_or_imp, forall_eq, forall_const, cond_true, cond_false, decide_true, decide_false, true_imp_iff, implies_true, Int.cast_ofNat_Int, forall_eq']
    simp only [↓EVP0, EVQ0, EVQ1, EVQ2, EVQ3, EVQ4, EVA, EVK, EVF, ↓reduceIte, Nat.reduceEqDiff, Nat.reduceAdd, Nat.reduceSub, Nat.reduceMul, Nat.reduceLT, Nat.reduceLeDiff, reduceCtorEq, Int.reduceToNat, Int.reduceLT, Int.reduceLE, Int.reduceAdd, Int.reduceSub, Int.reduceMul, Int.reduceNeg, Int.reduceEq, Nat.reduceMod, forall_eq_or_imp, forall_eq, forall_const, cond_true, cond_false, decide_true, decide_false, true_imp_iff, implies_true, Int.cast_ofNat_Int, forall_eq']
    refine qCallK_ro (ev_compare _ _) ?_ ?_
    · simp only [↓EVP0, EVQ0, EVQ1, EVQ2, EVQ3, EVQ4, EVA, EVK, EVF, ↓reduceIte, Nat.reduceEqDiff, Nat.reduceAdd, Nat.reduceSub, Nat.reduceMul, Nat.reduceLT, Nat.reduceLeDiff, reduceCtorEq, Int.reduceToNat, Int.reduceLT, Int.reduceLE, Int.reduceAdd, Int.reduceSub, Int.reduceMul, Int.reduceNeg, Int.reduceEq, Nat.reduceMod, forall_eq_or_imp, forall_eq, forall_const, cond_true, cond_false, decide_true, decide_false, true_imp_iff, implies_true, Int.cast_ofNat_Int, forall_eq']
    simp only [↓EVP0, EVQ0, EVQ1, EVQ2, EVQ3, EVQ4, EVA, EVK, EVF, ↓reduceIte, Nat.reduceEqDiff, Nat.reduceAdd, Nat.reduceSub, Nat.reduceMul, Nat.reduceLT, Nat.reduceLeDiff, reduceCtorEq, Int.reduceToNat, Int.reduceLT, Int.reduceLE, Int.reduceAdd, Int.reduceSub, Int.reduceMul, Int.reduceNeg, Int.reduceEq, Nat.reduceMod, forall_eq_or_imp, forall_eq, forall_const, cond_true, cond_false, decide_true, decide_false, true_imp_iff, implies_true, Int.cast_ofNat_Int, forall_eq']
    refine ⟨intsF [cmpI (l.getD a.toNat 0) (l.getD b.toNat 0), cmpI a b], fun i hi => ?_, qCallK_ro (ev_or [cmpI (l.getD a.toNat 0) (l.getD b.toNat 0), cmpI a b]) ?_ ?_⟩
    · obtain rfl | rfl : i = 0 ∨ i = 1 := by omega
      · rfl
      · rfl
    · simp only [↓EVP0, EVQ0, EVQ1, EVQ2, EVQ3, EVQ4, EVA, EVK, EVF, ↓reduceIte, Nat.reduceEqDiff, Nat.reduceAdd, Nat.reduceSub, Nat.reduceMul, Nat.reduceLT, Nat.reduceLeDiff, reduceCtorEq, Int.reduceToNat, Int.reduceLT, Int.reduceLE, Int.reduceAdd, Int.reduceSub, Int.reduceMul, Int.reduceNeg, Int.reduceEq, Nat.reduceMod, forall_eq_or_imp, forall_eq, forall_const, cond_true, cond_false, decide_true, decide_false, true_imp_iff, implies_true, Int.cast_ofNat_Int, forall_eq']
    simp only [↓EVP0, EVQ0, EVQ1, EVQ2, EVQ3, EVQ4, EVA, EVK, EVF, ↓reduceIte, Nat.reduceEqDiff, Nat.reduceAdd, Nat.reduceSub, Nat.reduceMul, Nat.reduceLT, Nat.reduceLeDiff, reduceCtorEq, Int.reduceToNat, Int.reduceLT, Int.reduceLE, Int.reduceAdd, Int.reduceSub, Int.reduceMul, Int.reduceNeg, Int.reduceEq, Nat.reduceMod, forall_eq_or_imp, forall_eq, forall_const, cond_true, cond_false, decide_true, decide_false, true_imp_iff, implies_true, Int.cast_ofNat_Int, forall_eq']
    unfold aboveB
    rw [hab.1, hab.2]
    generalize l.getD a.toNat 0 = x
    generalize l.getD b.toNat 0 = y
    unfold cmpI
    by_cases h1 : x < y
    · simp [h1, orI]
    · by_cases h2 : y < x
      · have : ¬ x = y := by omega
        simp [h1, h2, orI, this]
      · have : x = y := by omega
        subst this
        by_cases h3 : a < b
        · simp [h1, orI, h3]
        · by_cases h4 : b < a <;> simp [h1, orI, h3, h4]
end Go.Proofs.YtcdepkflghcjpaaDoor
namespace Go.Proofs.YtcdepkflghcjpaaDoor
set_option linter.unusedSimpArgs false
set_option linter.unusedVariables false
open Go.RowKit

end Go.Proofs.YtcdepkflghcjpaaDoor
namespace Go.Proofs.YtcdepkflghcjpaaDoor
set_option linter.unusedSimpArgs false
set_option linter.unusedVariables false
open Go.RowKit

def lvl (l : List Int) (x : Int) : Int := l.getD x.toNat 0
def ledS (l : List Int) (c : Cb) (m : List Bool) : List Bool :=
  bif decide (lvl l c.a = lvl l c.b - 1) then m.set c.b.toNat true else bif decide (lvl l c.b = lvl l c.a - 1) then m.set c.a.toNat true else m
def ledF (p : Pl) (l : List Int) : Nat → List Bool
  | 0 => List.replicate p.ns.length false
  | i + 1 => ledS l (p.cs.getD i default) (ledF p l i)
def rngB (n : Nat) (x : Int) : Bool := decide (-1 ≤ x) && decide (x < n)
def isZ (x : Int) : Bool := decide (x = 0)
def ledOk (p : Pl) (l : List Int) (i : Nat) : Bool := !(decide (0 < l.getD i 0) && !(ledF p l p.cs.length).getD i false)
def ordB (p : Pl) (l : List Int) : Bool :=
  (decide (validE p = 0) && decide (l.length = p.ns.length)) && (l.all (rngB p.ns.length) && (decide (l.countP isZ = 1) && (List.range l.length).all (ledOk p l)))
theorem ledF_len (p : Pl) (l : List Int) (i : Nat) : (ledF p l i).length = p.ns.length := by
  induction i with
  | zero => simp [ledF]
  | succ i ih =>
    simp only [ledF, ledS]
    cases decide (lvl l (p.cs.getD i default).a = lvl l (p.cs.getD i default).b - 1) <;> cases decide (lvl l (p.cs.getD i default).b = lvl l (p.cs.getD i default).a - 1) <;> simp [ih]
theorem ev_ordValid (p : Pl) (hp : PlOk p) (l : List Int) : Ev Tryd.prog 37 [plV p, .agg [intsV l]] (.sc (.bool (ordB p l))) := by
  have h25 := ev_valid p hp
  unfold plV intsV at *
  refine ev_fn Tryd.func37 comp37 (show 2 ≤ Tryd.f37.ntmps by decide) ?_; unfold cf37 rf37; simp only [↓EVP0, EVQ0, EVQ1, EVQ2, EVQ3, EVQ4, EVA, EVK, EVF, ↓reduceIte, Nat.reduceEqDiff, Nat.reduceAdd, Nat.reduceSub, Nat.reduceMul, Nat.reduceLT, Nat.reduceLeDiff, reduceCtorEq, Int.reduceToNat, Int.reduceLT, Int.reduceLE, Int.reduceAdd, Int.reduceSub, Int.reduceMul, Int.reduceNeg, Int.reduceEq, Nat.reduceMod, forall_eq_or_imp, forall_eq, forall_const, cond_true, cond_false, decide_true, decide_false, true_imp_iff, implies_true, Int.cast_ofNat_Int, forall_eq']
  refine callK_ro h25 ?_ ?_
  · simp only [↓EVP0, EVQ0, EVQ1, EVQ2, EVQ3, EVQ4, EVA, EVK, EVF, ↓reduceIte, Nat.reduceEqDiff, Nat.reduceAdd, Nat.reduceSub, Nat.reduceMul, Nat.reduceLT, Nat.reduceLeDiff, reduceCtorEq, Int.reduceToNat, Int.reduceLT, Int.reduceLE, Int.reduceAdd, Int.reduceSub, Int.reduceMul, Int.reduceNeg, Int.reduceEq, Nat.reduceMod, forall_eq_or_imp, forall_eq, forall_const, cond_true, cond_false, decide_true, decide_false, true_imp_iff, implies_true, Int.cast_ofNat_Int, forall_eq']
  simp only [↓EVP0, EVQ0, EVQ1, EVQ2, EVQ3, EVQ4, EVA, EVK, EVF, ↓reduceIte, Nat.reduceEqDiff, Nat.reduceAdd, Nat.reduceSub, Nat.reduceMul, Nat.reduceLT, Nat.reduceLeDiff, reduceCtorEq, Int.reduceToNat, Int.reduceLT, Int.reduceLE, Int.reduceAdd, Int.reduceSub, Int.reduceMul, Int.reduceNeg, Int.reduceEq, Nat.reduceMod, forall_eq_or_imp, forall_eq, forall_const, cond_true, cond_false, decide_true, decide_false, true_imp_iff, implies_true, Int.cast_ofNat_Int, forall_eq']
  have hu : ∀ (g : Bool), (decide (validE p = 0) && decide (l.length = p.ns.length)) = false → false = ordB p l := fun _ h => by unfold ordB; rw [h]; rfl
  refine ⟨fun hg => hu true ?_, fun hg => ?_⟩
  · revert hg; by_cases h1 : validE p = 0 <;> simp [h1]; omega
  have hok : validE p = 0 ∧ l.length = p.ns.length := by
    revert hg; by_cases h1 : validE p = 0 <;> simp [h1]; omega
  obtain ⟨hv, hlen⟩ := hok
  have hV := valid_of hv
  intro _
  refine lwp_for (α := Unit) l.length (fun i _ => (l.take i).all (rngB p.ns.length) = true) (fun i _ => [(2, .ptr 0 0 0 0 0), (3, .ptr 1 0 0 0 0), (26, .rsl 1 l.length (intsF l)), (27, .sc (.int .i64 l.length)), (28, .sc (.int .i64 i)), (5, .sc (.int .i64 ((l.take i).countP isZ)))])
    (fun i _ => [(0, .box [.rsl 3 p.ns.length (ndsF p.ns), .rsl 6 p.cs.length (cbsF p.cs)]), (0, .box [.rsl 1 l.length (intsF l)])]) () rfl ?_ (fun _ _ => Nat.zero_le _) ?_
  · simp only [↓EVP0, EVQ0, EVQ1, EVQ2, EVQ3, EVQ4, EVA, EVK, EVF, ↓reduceIte, Nat.reduceEqDiff, Nat.reduceAdd, Nat.reduceSub, Nat.reduceMul, Nat.reduceLT, Nat.reduceLeDiff, reduceCtorEq, Int.reduceToNat, Int.reduceLT, Int.reduceLE, Int.reduceAdd, Int.reduceSub, Int.reduceMul, Int.reduceNeg, Int.reduceEq, Nat.reduceMod, forall_eq_or_imp, forall_eq, forall_const, cond_true, cond_false, decide_true, decide_false, true_imp_iff, implies_true, Int.cast_ofNat_Int, forall_eq']
    rfl
  intro i _ hi hx
  unfold lb37_2
  simp only [↓EVP0, EVQ0, EVQ1, EVQ2, EVQ3, EVQ4, EVA, EVK, EVF, ↓reduceIte, Nat.reduceEqDiff, Nat.reduceAdd, Nat.reduceSub, Nat.reduceMul, Nat.reduceLT, Nat.reduceLeDiff, reduceCtorEq, Int.reduceToNat, Int.reduceLT, Int.reduceLE, Int.reduceAdd, Int.reduceSub, Int.reduceMul, Int.reduceNeg, Int.reduceEq, Nat.reduceMod, forall_eq_or_imp, forall_eq, forall_const, cond_true, cond_false, decide_true, decide_false, true_imp_iff, implies_true, Int.cast_ofNat_Int, forall_eq']
  refine ⟨fun hg => ?_, fun hg => ?_⟩
  · have hi2 : i < l.length := by simpa using hg
    have hcnt : (l.take (i + 1)).countP isZ = (l.take i).countP isZ + (if isZ (l.getD i 0) then 1 else 0) := by
      rw [take_succ_getD 0 l i hi2, List.countP_append, List.countP_singleton]
    have hcle : (l.take i).countP isZ ≤ i := Nat.le_trans List.countP_le_length (by simp; omega)
    refine ⟨⟨by omega, by omega⟩, fun hg => ?_, fun hg => ?_⟩
    · have : rngB p.ns.length (l.getD i 0) = false := by
        unfold rngB; revert hg; cases h1 : decide (l.getD i 0 < -1) <;> simp at h1 ⊢ <;> omega
      have := all_fail (q := rngB p.ns.length) 0 hi2 this
      simp [ordB, this]
    · have hr : rngB p.ns.length (l.getD i 0) = true := by
        unfold rngB; revert hg; cases h1 : decide (l.getD i 0 < -1) <;> simp at h1 ⊢ <;> omega
      have hs := all_step (q := rngB p.ns.length) 0 hi2 hx hr
      refine ⟨fun hz => ?_, fun hz => ?_⟩
      · have hz' : isZ (l.getD i 0) = true := hz
        rw [hcnt, hz']
        refine ⟨by unfold In64; omega, by unfold In64; omega, hi2, (), hs, ?_⟩
        simp
      · have hz' : isZ (l.getD i 0) = false := hz
        rw [hcnt, hz']
        refine ⟨by unfold In64; omega, hi2, (), hs, ?_⟩
        simp
  have hii : i = l.length := by simp at hg; omega
  subst hii
  have hR := all_len hx
  rw [List.take_length]
  refine ⟨fun hg => ?_, fun hg _ => ?_⟩
  · have : decide (l.countP isZ = 1) = false := by simp at hg ⊢; omega
    unfold ordB; rw [this]; simp
  have hC : decide (l.countP isZ = 1) = true := by simp at hg ⊢; omega
  refine ⟨by have := hV.n16; unfold mksC; omega, fun _ => ?_⟩
  refine lwp_for (α := Unit) p.cs.length (fun i _ => True) (fun i _ => [(2, .ptr 0 0 0 0 0), (3, .ptr 1 0 0 0 0), (8, .sl 2 0 1 0 p.ns.length), (53, .rsl 6 p.cs.length (cbsF p.cs)), (54, .sc (.int .i64 p.cs.length)), (55, .sc (.int .i64 i))])
    (fun i _ => [(0, .box [.rsl 3 p.ns.length (ndsF p.ns), .rsl 6 p.cs.length (cbsF p.cs)]), (0, .box [.rsl 1 l.length (intsF l)]), (0, .bools (ledF p l i))]) () trivial ?_ (fun _ _ => Nat.zero_le _) ?_
  · simp only [ledF]
    simp only [↓EVP0, EVQ0, EVQ1, EVQ2, EVQ3, EVQ4, EVA, EVK, EVF, ↓reduceIte, Nat.reduceEqDiff, Nat.reduceAdd, Nat.reduceSub, Nat.reduceMul, Nat.reduceLT, Nat.reduceLeDiff, reduceCtorEq, Int.reduceToNat, Int.reduceLT, Int.reduceLE, Int.reduceAdd, Int.reduceSub, Int.reduceMul, Int.reduceNeg, Int.reduceEq, Nat.reduceMod, forall_eq_or_imp, forall_eq, forall_const, cond_true, cond_false, decide_true, decide_false, true_imp_iff, implies_true, Int.cast_ofNat_Int, forall_eq']
  intro i _ hi _
  have hll := ledF_len p l i
  have hstep : ledF p l (i + 1) = ledS l (p.cs.getD i default) (ledF p l i) := rfl
  rw [hstep]
  have hfin : i = p.cs.length → ledF p l i = ledF p l p.cs.length := fun e => by rw [e]
  generalize ledF p l i = m at hll hfin ⊢
  unfold lb37_1
  simp only [↓EVP0, EVQ0, EVQ1, EVQ2, EVQ3, EVQ4, EVA, EVK, EVF, ↓reduceIte, Nat.reduceEqDiff, Nat.reduceAdd, Nat.reduceSub, Nat.reduceMul, Nat.reduceLT, Nat.reduceLeDiff, reduceCtorEq, Int.reduceToNat, Int.reduceLT, Int.reduceLE, Int.reduceAdd, Int.reduceSub, Int.reduceMul, Int.reduceNeg, Int.reduceEq, Nat.reduceMod, forall_eq_or_imp, forall_eq, forall_const, cond_true, cond_false, decide_true, decide_false, true_imp_iff, implies_true, Int.cast_ofNat_Int, forall_eq']
  refine ⟨fun hg => ?_, fun hg => ?_⟩
  · have hi2 : i < p.cs.length := by simpa using hg
    have hcm : (p.cs.getD i default) ∈ p.cs := by rw [List.getD_eq_getElem?_getD, List.getElem?_eq_getElem hi2]; exact List.getElem_mem hi2
    obtain ⟨hca, hcb⟩ := hV.cab _ hcm
    generalize p.cs.getD i default = c at hca hcb ⊢
    have hmem : ∀ x, inN p.ns.length x → -1 ≤ l.getD x.toNat 0 ∧ l.getD x.toNat 0 < p.ns.length := by
      intro x hx
      have hlt : x.toNat < l.length := by unfold inN at hx; omega
      have := List.all_eq_true.1 hR (l.getD x.toNat 0) (by rw [List.getD_eq_getElem?_getD, List.getElem?_eq_getElem hlt]; exact List.getElem_mem hlt)
      simpa [rngB] using this
    have ma := hmem _ hca
    have mb := hmem _ hcb
    have n16 := hV.n16
    unfold inN at hca hcb
    have hi64 : In64 ((i : Int) + 1) := by have := hV.c32; unfold In64; omega
    refine ⟨⟨by omega, by omega⟩, ⟨by omega, by omega⟩, ⟨by omega, by omega⟩, by unfold In64; omega, fun h1 => ?_, fun h1 => ⟨⟨by omega, by omega⟩, ⟨by omega, by omega⟩, by unfold In64; omega, fun h2 => ?_, fun h2 => ?_⟩⟩
    · exact ⟨⟨by omega, by omega⟩, by omega, hi64, hi2, (), by unfold ledS lvl; rw [h1]; rfl⟩
    · exact ⟨⟨by omega, by omega⟩, by omega, hi64, hi2, (), by unfold ledS lvl; rw [h1, h2]; rfl⟩
    · exact ⟨hi64, hi2, (), by unfold ledS lvl; rw [h1, h2]; rfl⟩
  have hii : i = p.cs.length := by simp at hg; omega
  have hm := hfin hii
  intro _
  refine lwp_for (α := Unit) l.length (fun i _ => (List.range i).all (ledOk p l) = true) (fun i _ => [(8, .sl 2 0 1 0 p.ns.length), (99, .rsl 1 l.length (intsF l)), (100, .sc (.int .i64 l.length)), (101, .sc (.int .i64 i))])
    (fun i _ => [(0, .box [.rsl 3 p.ns.length (ndsF p.ns), .rsl 6 p.cs.length (cbsF p.cs)]), (0, .box [.rsl 1 l.length (intsF l)]), (0, .bools m)]) () rfl ?_ (fun _ _ => Nat.zero_le _) ?_
  · simp only [↓EVP0, EVQ0, EVQ1, EVQ2, EVQ3, EVQ4, EVA, EVK, EVF, ↓reduceIte, Nat.reduceEqDiff, Nat.reduceAdd, Nat.reduceSub, Nat.reduceMul, Nat.reduceLT, Nat.reduceLeDiff, reduceCtorEq, Int.reduceToNat, Int.reduceLT, Int.reduceLE, Int.reduceAdd, Int.reduceSub, Int.reduceMul, Int.reduceNeg, Int.reduceEq, Nat.reduceMod, forall_eq_or_imp, forall_eq, forall_const, cond_true, cond_false, decide_true, decide_false, true_imp_iff, implies_true, Int.cast_ofNat_Int, forall_eq']
  intro i _ hi hx
  unfold lb37_0
  simp only [↓EVP0, EVQ0, EVQ1, EVQ2, EVQ3, EVQ4, EVA, EVK, EVF, ↓reduceIte, Nat.reduceEqDiff, Nat.reduceAdd, Nat.reduceSub, Nat.reduceMul, Nat.reduceLT, Nat.reduceLeDiff, reduceCtorEq, Int.reduceToNat, Int.reduceLT, Int.reduceLE, Int.reduceAdd, Int.reduceSub, Int.reduceMul, Int.reduceNeg, Int.reduceEq, Nat.reduceMod, forall_eq_or_imp, forall_eq, forall_const, cond_true, cond_false, decide_true, decide_false, true_imp_iff, implies_true, Int.cast_ofNat_Int, forall_eq']
  have hO : ∀ b, (List.range l.length).all (ledOk p l) = b → ordB p l = b := fun b h => by
    unfold ordB; rw [h, hR, hC, hv, hlen]; simp
  refine ⟨fun hg => ?_, fun hg => ?_⟩
  · have hi2 : i < l.length := by simpa using hg
    have hlo : ledOk p l i = !(decide (0 < l.getD i 0) && !m.getD i false) := by unfold ledOk; rw [hm]
    refine ⟨⟨by omega, by omega⟩, fun _ => ⟨by omega, by omega⟩, fun _ => by omega, fun h => ?_, fun h => ?_⟩
    · symm
      apply hO
      rw [List.all_eq_false]
      refine ⟨i, List.mem_range.2 hi2, ?_⟩
      rw [hlo]; revert h; cases decide (0 < l.getD i 0) <;> cases m.getD i false <;> simp
    · refine ⟨by unfold In64; omega, hi2, (), ?_⟩
      have : ledOk p l i = true := by rw [hlo]; revert h; cases decide (0 < l.getD i 0) <;> cases m.getD i false <;> simp
      rw [List.all_append, hx]; simp [this]
  · have hii : i = l.length := by simp at hg; omega
    subst hii
    exact (hO true hx).symm
end Go.Proofs.YtcdepkflghcjpaaDoor
namespace Go.Proofs.YtcdepkflghcjpaaDoor
set_option linter.unusedSimpArgs false
set_option linter.unusedVariables false
open Go.RowKit

structure OrdVal (p : Pl) (l : List Int) : Prop where
  v : validE p = 0
  len : l.length = p.ns.length
  rng : ∀ x, inN p.ns.length x → -1 ≤ lvl l x ∧ lvl l x < p.ns.length
theorem ord_of {p : Pl} {l : List Int} (h : ordB p l = true) : OrdVal p l := by
  unfold ordB at h
  simp only [Bool.and_eq_true, decide_eq_true_eq] at h
  obtain ⟨⟨h1, h2⟩, h3, _, _⟩ := h
  refine ⟨h1, h2, fun x hx => ?_⟩
  have hlt : x.toNat < l.length := by unfold inN at hx; omega
  have := List.all_eq_true.1 h3 (l.getD x.toNat 0) (by rw [List.getD_eq_getElem?_getD, List.getElem?_eq_getElem hlt]; exact List.getElem_mem hlt)
  simpa [rngB, lvl] using this
theorem cs_mem {p : Pl} {i : Int} (h0 : 0 ≤ i) (h1 : i < p.cs.length) : p.cs.getD i.toNat default ∈ p.cs := by
  have : i.toNat < p.cs.length := by omega
  rw [List.getD_eq_getElem?_getD, List.getElem?_eq_getElem this]; exact List.getElem_mem this
end Go.Proofs.YtcdepkflghcjpaaDoor
namespace Go.Proofs.YtcdepkflghcjpaaDoor
set_option linter.unusedSimpArgs false
set_option linter.unusedVariables false
open Go.RowKit

def Better (n : Nat) (m m' : List Int) : Prop := ∀ x (k : Int), inN n x → 0 ≤ lvl m x → lvl m x ≤ k → 0 ≤ lvl m' x ∧ lvl m' x ≤ k
theorem Better.refl (n : Nat) (m : List Int) : Better n m m := fun _ _ _ h1 h2 => ⟨h1, h2⟩
theorem Better.trans {n : Nat} {m m' m2 : List Int} (a : Better n m m') (b : Better n m' m2) : Better n m m2 := fun x k hx h1 h2 => b x k hx (a x k hx h1 h2).1 (a x k hx h1 h2).2
end Go.Proofs.YtcdepkflghcjpaaDoor
namespace Go.Proofs.YtcdepkflghcjpaaDoor
set_option linter.unusedSimpArgs false
set_option linter.unusedVariables false
open Go.RowKit

end Go.Proofs.YtcdepkflghcjpaaDoor
namespace Go.Proofs.YtcdepkflghcjpaaDoor
set_option linter.unusedSimpArgs false
set_option linter.unusedVariables false
open Go.RowKit
set_option maxRecDepth 20000

theorem condT (x y : Bool) : (bif x then true else y) = (x || y) := by cases x <;> rfl
theorem condF (x y : Bool) : (bif x then y else false) = (x && y) := by cases x <;> rfl
end Go.Proofs.YtcdepkflghcjpaaDoor
namespace Go.Proofs.YtcdepkflghcjpaaDoor
set_option linter.unusedSimpArgs false
set_option linter.unusedVariables false
open Go.RowKit
set_option maxRecDepth 20000

end Go.Proofs.YtcdepkflghcjpaaDoor
namespace Go.Proofs.YtcdepkflghcjpaaDoor
set_option linter.unusedSimpArgs false
set_option linter.unusedVariables false
open Go.RowKit
set_option maxRecDepth 20000

end Go.Proofs.YtcdepkflghcjpaaDoor
namespace Go.Proofs.YtcdepkflghcjpaaDoor
set_option linter.unusedSimpArgs false
set_option linter.unusedVariables false
open Go.RowKit
set_option maxRecDepth 20000

def acrE (c : Cb) (x : Int) : Int × Bool := bif decide (x = c.a) then (c.b, true) else bif decide (x = c.b) then (c.a, true) else (0, false)
def nodB (p : Pl) (x : Int) : Bool := decide (0 ≤ x) && decide (x < p.ns.length)
theorem ev_isNode (p : Pl) (x : Int) : Ev Tryd.prog 53 [plV p, .sc (.int .i64 x)] (.sc (.bool (nodB p x))) := by
  unfold plV
  refine ev_fn Tryd.func53 comp53 (show 2 ≤ Tryd.f53.ntmps by decide) ?_; unfold cf53 rf53; simp only [↓EVP0, EVQ0, EVQ1, EVQ2, EVQ3, EVQ4, EVA, EVK, EVF, ↓reduceIte, Nat.reduceEqDiff, Nat.reduceAdd, Nat.reduceSub, Nat.reduceMul, Nat.reduceLT, Nat.reduceLeDiff, reduceCtorEq, Int.reduceToNat, Int.reduceLT, Int.reduceLE, Int.reduceAdd, Int.reduceSub, Int.reduceMul, Int.reduceNeg, Int.reduceEq, Nat.reduceMod, forall_eq_or_imp, forall_eq, forall_const, cond_true, cond_false, decide_true, decide_false, true_imp_iff, implies_true, Int.cast_ofNat_Int, forall_eq']
  rw [condF]; rfl
theorem getD_mem {α : Type} (d : α) {l : List α} {i : Nat} (h : i < l.length) : l.getD i d ∈ l := by
  rw [List.getD_eq_getElem?_getD, List.getElem?_eq_getElem h]; exact List.getElem_mem h
theorem cs_in {p : Pl} (hv : validE p = 0) {i : Int} (h : 0 ≤ i ∧ i < p.cs.length) : inN p.ns.length (p.cs.getD i.toNat default).a ∧ inN p.ns.length (p.cs.getD i.toNat default).b := (valid_of hv).cab _ (cs_mem h.1 h.2)
theorem acr_in {p : Pl} (hv : validE p = 0) {i x : Int} (h : 0 ≤ i ∧ i < p.cs.length) (ho : (acrE (p.cs.getD i.toNat default) x).2 = true) : inN p.ns.length (acrE (p.cs.getD i.toNat default) x).1 := by
  obtain ⟨h1, h2⟩ := cs_in hv h
  unfold acrE at *
  revert ho
  cases decide (x = (p.cs.getD i.toNat default).a)
  · cases decide (x = (p.cs.getD i.toNat default).b)
    · intro h; simp at h
    · intro _; exact h1
  · intro _; exact h2
end Go.Proofs.YtcdepkflghcjpaaDoor
namespace Go.Proofs.YtcdepkflghcjpaaDoor
set_option linter.unusedSimpArgs false
set_option linter.unusedVariables false
open Go.RowKit
set_option maxRecDepth 20000

theorem ev_step (l : List Int) (x : Int) (f : Bool) (y : Int) : Ev Tryd.prog 58 [.agg [intsV l], .agg [.sc (.int .i64 x), .sc (.bool f)], .sc (.int .i64 y)] (.tup [.agg [.sc (.int .i64 y), .sc (.bool (!aboveB l y x))], .sc (.bool (!aboveB l y x || !f))]) := by
  have h1 := ev_above l y x
  unfold intsV at *
  refine ev_fn Tryd.func58 comp58 (show 3 ≤ Tryd.f58.ntmps by decide) ?_; unfold cf58 rf58; simp only [↓EVP0, EVQ0, EVQ1, EVQ2, EVQ3, EVQ4, EVA, EVK, EVF, ↓reduceIte, Nat.reduceEqDiff, Nat.reduceAdd, Nat.reduceSub, Nat.reduceMul, Nat.reduceLT, Nat.reduceLeDiff, reduceCtorEq, Int.reduceToNat, Int.reduceLT, Int.reduceLE, Int.reduceAdd, Int.reduceSub, Int.reduceMul, Int.reduceNeg, Int.reduceEq, Nat.reduceMod, forall_eq_or_imp, forall_eq, forall_const, cond_true, cond_false, decide_true, decide_false, true_imp_iff, implies_true, Int.cast_ofNat_Int, forall_eq']
  refine callK_ro (h1) ?_ ?_
  · simp only [↓EVP0, EVQ0, EVQ1, EVQ2, EVQ3, EVQ4, EVA, EVK, EVF, ↓reduceIte, Nat.reduceEqDiff, Nat.reduceAdd, Nat.reduceSub, Nat.reduceMul, Nat.reduceLT, Nat.reduceLeDiff, reduceCtorEq, Int.reduceToNat, Int.reduceLT, Int.reduceLE, Int.reduceAdd, Int.reduceSub, Int.reduceMul, Int.reduceNeg, Int.reduceEq, Nat.reduceMod, forall_eq_or_imp, forall_eq, forall_const, cond_true, cond_false, decide_true, decide_false, true_imp_iff, implies_true, Int.cast_ofNat_Int, forall_eq']
  simp only [↓EVP0, EVQ0, EVQ1, EVQ2, EVQ3, EVQ4, EVA, EVK, EVF, ↓reduceIte, Nat.reduceEqDiff, Nat.reduceAdd, Nat.reduceSub, Nat.reduceMul, Nat.reduceLT, Nat.reduceLeDiff, reduceCtorEq, Int.reduceToNat, Int.reduceLT, Int.reduceLE, Int.reduceAdd, Int.reduceSub, Int.reduceMul, Int.reduceNeg, Int.reduceEq, Nat.reduceMod, forall_eq_or_imp, forall_eq, forall_const, cond_true, cond_false, decide_true, decide_false, true_imp_iff, implies_true, Int.cast_ofNat_Int, forall_eq']
  simp only [condT]
theorem nodB_in {p : Pl} {x : Int} (h : nodB p x = true) : inN p.ns.length x := by
  unfold nodB at h
  simp only [Bool.and_eq_true, decide_eq_true_eq] at h
  exact h
def lvs (l : List Int) (ns : List Int) : Bool := ns.all fun x => decide (0 ≤ lvl l x)
end Go.Proofs.YtcdepkflghcjpaaDoor
namespace Go.Proofs.YtcdepkflghcjpaaDoor
set_option linter.unusedSimpArgs false
set_option linter.unusedVariables false
open Go.RowKit
set_option maxRecDepth 20000

end Go.Proofs.YtcdepkflghcjpaaDoor
namespace Go.Proofs.YtcdepkflghcjpaaDoor
set_option linter.unusedSimpArgs false
set_option linter.unusedVariables false
open Go.RowKit
set_option maxRecDepth 20000

abbrev St := Int × Bool
abbrev Mp := List (St × Int)
def skV (s : St) : Value := .agg #[.int .i64 s.1, .bool s.2]
theorem skV_inj {x y : St} (h : skV x = skV y) : x = y := by
  unfold skV at h
  injection h with h
  have h1 : (#[Value.int .i64 x.1, .bool x.2] : Array Value).toList = (#[Value.int .i64 y.1, .bool y.2] : Array Value).toList := by rw [h]
  simp at h1
  exact Prod.ext h1.1 h1.2
def kvM (m : Mp) : List (Value × LV) := m.map fun q => (skV q.1, .sc (.int .i64 q.2))
def lk (s : St) : Mp → Option Int
  | [] => none
  | (t, d) :: r => if t = s then some d else lk s r
def pt (s : St) (d : Int) : Mp → Mp
  | [] => [(s, d)]
  | (t, u) :: r => if t = s then (t, d) :: r else (t, u) :: pt s d r
theorem mfind_kvM (s : St) : ∀ (m : Mp), mfind (kvM m) (skV s) = (lk s m).map fun d => .sc (.int .i64 d)
  | [] => rfl
  | (t, d) :: r => by
    have ih := mfind_kvM s r
    simp only [kvM, List.map_cons, mfind, lk] at ih ⊢
    by_cases h : t = s
    · subst h; simp
    · rw [if_neg (fun e => h (skV_inj e)), if_neg h, ih]
theorem mput_kvM (s : St) (d : Int) : ∀ (m : Mp), mput (kvM m) (skV s) (.sc (.int .i64 d)) = kvM (pt s d m)
  | [] => rfl
  | (t, u) :: r => by
    have ih := mput_kvM s d r
    simp only [kvM, List.map_cons, mput, pt] at ih ⊢
    by_cases h : t = s
    · subst h; simp
    · rw [if_neg (fun e => h (skV_inj e)), if_neg h, ih]; rfl
theorem lk_pt (s t : St) (d : Int) : ∀ (m : Mp), lk t (pt s d m) = if t = s then some d else lk t m
  | [] => by
    simp only [pt, lk]
    by_cases h : t = s
    · rw [if_pos h, if_pos h.symm]
    · rw [if_neg h, if_neg (fun e => h e.symm)]
  | (u, e) :: r => by
    have ih := lk_pt s t d r
    simp only [pt]
    by_cases h : u = s
    · subst h
      rw [if_pos rfl]
      simp only [lk]
      by_cases h2 : u = t
      · subst h2; simp
      · rw [if_neg h2, if_neg h2, if_neg (fun e => h2 e.symm)]
    · rw [if_neg h]
      simp only [lk]
      by_cases h2 : u = t
      · subst h2; rw [if_pos rfl, if_pos rfl, if_neg h]
      · rw [if_neg h2, if_neg h2, ih]
theorem allC_kvM (n : Nat) (m : Mp) : allC n ((kvM m).map (·.2)) := by
  induction m with
  | nil => trivial
  | cons q r ih => exact ⟨trivial, ih⟩
theorem key_ib {P : Program} {t : TypeId} {f0 f1 : Field} (hu : P.underlying t = some (.struct #[f0, f1])) (h0 : P.underlying f0.type = some (.int .i64)) (h1 : P.underlying f1.type = some .bool) (o0 : f0.offset = 0) (o1 : f1.offset = 1)
    (n0 : (f0.name != "_") = true) (n1 : (f1.name != "_") = true) (hk : P.keyType t = true) (hc : P.cellsOf t = 2) (c0 : P.cellsOf f0.type = 1) (c1 : P.cellsOf f1.type = 1) (hz : P.types.size ≠ 0) {a : Int} {b : Bool} (ha : In64 a) :
    (keyOf P t (skV (a, b))).isSome = true := by
  have h2 : (Lit.int .i64 a).wf = true := wf_i64 ha
  obtain ⟨d, hd⟩ : ∃ d, P.types.size = d + 1 := ⟨P.types.size - 1, by omega⟩
  have k0 : P.keyLits P.types.size f0.type [.int .i64 a] = some [.int .i64 a] := by rw [hd]; simp [Program.keyLits, h0, h2]
  have k1 : P.keyLits P.types.size f1.type [.bool b] = some [.bool b] := by rw [hd]; simp [Program.keyLits, h1]
  simp only [bne_iff_ne, ne_eq] at n0 n1
  simp [skV, keyOf, hu, hk, Value.formed, hc, Program.keyLits, Value.cells, o0, o1, c0, c1, k0, k1, n0, n1]
theorem key_st (s : St) (hs : In64 s.1) : (keyOf Tryd.prog 102 (skV s)).isSome = true := by
  exact key_ib Tryd.underlying102 (by kernel_rfl) (by kernel_rfl) rfl rfl (by decide) (by decide) (by kernel_rfl) (by kernel_rfl) (by kernel_rfl) (by kernel_rfl) (ne_of_beq_false (by kernel_rfl)) hs
theorem keys_kvM {m : Mp} {s : St} (hm : ∀ q, q ∈ m → In64 q.1.1) (hs : In64 s.1) : keysOk Tryd.prog 102 (kvM m) (skV s) := by
  refine ⟨key_st s hs, fun kv hkv => ?_⟩
  simp only [kvM, List.mem_map] at hkv
  obtain ⟨q, hq, rfl⟩ := hkv
  exact key_st _ (hm q hq)
def mOk (m : Mp) : Prop := ∀ q, q ∈ m → In64 q.1.1
def imp (l : List Int) (m : Mp) (s : St) (y : Int) : Mp × Bool :=
  match lk (y, !aboveB l y s.1) m with
  | none => (m, false)
  | some d => bif !aboveB l y s.1 || !s.2 then (match lk s m with
    | some o => if o ≤ d + 1 then (m, false) else (pt s (d + 1) m, true)
    | none => (pt s (d + 1) m, true)) else (m, false)
def sH (p : Pl) (l : List Int) (up : List Bool) (m : Mp) : List (Nat × LO) := [(0, .box [.rsl 3 p.ns.length (ndsF p.ns), .rsl 6 p.cs.length (cbsF p.cs)]), (0, .box [.rsl 1 l.length (intsF l)]), (0, .box [.rsl 1 up.length (boolsF up)]), (0, .map (kvM m)), (0, .box [.mp 3 0]), (0, .box [.fn 81 [.ptr 1 0 0 0 0, .ptr 4 0 0 0 0]])]
theorem ev_imp (p : Pl) (l : List Int) (m : Mp) (hm : mOk m) (up : List Bool) (s : St) (hs : In64 s.1) (y : Int) (hy : In64 y) (hd : ∀ t d, lk t m = some d → In64 (d + 1)) (ob : List LV) (hob : allC 7 ob) :
    LCall Tryd.prog 81 [.agg [.sc (.int .i64 s.1), .sc (.bool s.2)], .sc (.int .i64 y), .ptr 1 0 0 0 0, .ptr 4 0 0 0 0]
      (mkH (sH p l up m ++ [(0, .box ob)])) (.sc (.bool (imp l m s y).2)) (mkH (sH p l up (imp l m s y).1 ++ [(0, .box ob)])) := by
  have h3 := ev_step l s.1 s.2 y
  unfold intsV at h3
  refine lcall_of_lwp Tryd.func81 comp81 (show 4 ≤ Tryd.f81.ntmps by decide) (by simp [sH, mkH]) ?_
  unfold cf81 rf81 sH
  simp only [↓EVP0, EVQ0, EVQ1, EVQ2, EVQ3, EVQ4, EVA, EVK, EVF, ↓reduceIte, Nat.reduceEqDiff, Nat.reduceAdd, Nat.reduceSub, Nat.reduceMul, Nat.reduceLT, Nat.reduceLeDiff, reduceCtorEq, Int.reduceToNat, Int.reduceLT, Int.reduceLE, Int.reduceAdd, Int.reduceSub, Int.reduceMul, Int.reduceNeg, Int.reduceEq, Nat.reduceMod, forall_eq_or_imp, forall_eq, forall_const, cond_true, cond_false, decide_true, decide_false, true_imp_iff, implies_true, Int.cast_ofNat_Int, forall_eq']
  refine callK_ro (h3) ?_ ?_
  · simp only [↓EVP0, EVQ0, EVQ1, EVQ2, EVQ3, EVQ4, EVA, EVK, EVF, ↓reduceIte, Nat.reduceEqDiff, Nat.reduceAdd, Nat.reduceSub, Nat.reduceMul, Nat.reduceLT, Nat.reduceLeDiff, reduceCtorEq, Int.reduceToNat, Int.reduceLT, Int.reduceLE, Int.reduceAdd, Int.reduceSub, Int.reduceMul, Int.reduceNeg, Int.reduceEq, Nat.reduceMod, forall_eq_or_imp, forall_eq, forall_const, cond_true, cond_false, decide_true, decide_false, true_imp_iff, implies_true, Int.cast_ofNat_Int, forall_eq']
  simp only [↓EVP0, EVQ0, EVQ1, EVQ2, EVQ3, EVQ4, EVA, EVK, EVF, ↓reduceIte, Nat.reduceEqDiff, Nat.reduceAdd, Nat.reduceSub, Nat.reduceMul, Nat.reduceLT, Nat.reduceLeDiff, reduceCtorEq, Int.reduceToNat, Int.reduceLT, Int.reduceLE, Int.reduceAdd, Int.reduceSub, Int.reduceMul, Int.reduceNeg, Int.reduceEq, Nat.reduceMod, forall_eq_or_imp, forall_eq, forall_const, cond_true, cond_false, decide_true, decide_false, true_imp_iff, implies_true, Int.cast_ofNat_Int, forall_eq']
  have e1 : mfind (kvM m) (Value.agg #[Value.int IntKind.i64 y, Value.bool !aboveB l y s.1]) = (lk (y, !aboveB l y s.1) m).map fun d => .sc (.int .i64 d) := mfind_kvM (y, !aboveB l y s.1) m
  have e2 : mfind (kvM m) (Value.agg #[Value.int IntKind.i64 s.1, Value.bool s.2]) = (lk s m).map fun d => .sc (.int .i64 d) := mfind_kvM s m
  have e3 : ∀ d, mput (kvM m) (Value.agg #[Value.int IntKind.i64 s.1, Value.bool s.2]) (.sc (.int .i64 d)) = kvM (pt s d m) := fun d => mput_kvM s d m
  have k1 : keysOk Tryd.prog 102 (kvM m) (Value.agg #[Value.int IntKind.i64 y, Value.bool !aboveB l y s.1]) := keys_kvM (s := (y, !aboveB l y s.1)) hm hy
  have k2 : keysOk Tryd.prog 102 (kvM m) (Value.agg #[Value.int IntKind.i64 s.1, Value.bool s.2]) := keys_kvM (s := s) hm hs
  have a1 : ∀ m : Mp, allC 7 ((kvM m).map (·.2)) := allC_kvM 7
  simp only [e1, e2, e3]
  have hd1 := hd (y, !aboveB l y s.1)
  unfold imp
  generalize aboveB l y s.1 = u at *
  rcases hq : lk (y, !u) m with _ | d
  · rcases hr : lk s m with _ | o <;> simp only [Option.map_some, Option.map_none, Option.getD_some, Option.getD_none, Option.isSome_some, Option.isSome_none]
    all_goals
      simp only [↓EVP0, EVQ0, EVQ1, EVQ2, EVQ3, EVQ4, EVA, EVK, EVF, ↓reduceIte, Nat.reduceEqDiff, Nat.reduceAdd, Nat.reduceSub, Nat.reduceMul, Nat.reduceLT, Nat.reduceLeDiff, reduceCtorEq, Int.reduceToNat, Int.reduceLT, Int.reduceLE, Int.reduceAdd, Int.reduceSub, Int.reduceMul, Int.reduceNeg, Int.reduceEq, Nat.reduceMod, forall_eq_or_imp, forall_eq, forall_const, cond_true, cond_false, decide_true, decide_false, true_imp_iff, implies_true, Int.cast_ofNat_Int, forall_eq']
      cases hg : (!u || !s.2)
      all_goals
        simp only [↓EVP0, EVQ0, EVQ1, EVQ2, EVQ3, EVQ4, EVA, EVK, EVF, ↓reduceIte, Nat.reduceEqDiff, Nat.reduceAdd, Nat.reduceSub, Nat.reduceMul, Nat.reduceLT, Nat.reduceLeDiff, reduceCtorEq, Int.reduceToNat, Int.reduceLT, Int.reduceLE, Int.reduceAdd, Int.reduceSub, Int.reduceMul, Int.reduceNeg, Int.reduceEq, Nat.reduceMod, forall_eq_or_imp, forall_eq, forall_const, cond_true, cond_false, decide_true, decide_false, true_imp_iff, implies_true, Int.cast_ofNat_Int, forall_eq']
        unfold fin2
        simp only [↓EVP0, EVQ0, EVQ1, EVQ2, EVQ3, EVQ4, EVA, EVK, EVF, ↓reduceIte, Nat.reduceEqDiff, Nat.reduceAdd, Nat.reduceSub, Nat.reduceMul, Nat.reduceLT, Nat.reduceLeDiff, reduceCtorEq, Int.reduceToNat, Int.reduceLT, Int.reduceLE, Int.reduceAdd, Int.reduceSub, Int.reduceMul, Int.reduceNeg, Int.reduceEq, Nat.reduceMod, forall_eq_or_imp, forall_eq, forall_const, cond_true, cond_false, decide_true, decide_false, true_imp_iff, implies_true, Int.cast_ofNat_Int, forall_eq']
        exact ⟨k1, k2, a1 m, hob⟩
  · have hd2 := hd1 d hq
    rcases hr : lk s m with _ | o <;> simp only [Option.map_some, Option.map_none, Option.getD_some, Option.getD_none, Option.isSome_some, Option.isSome_none]
    all_goals
      simp only [↓EVP0, EVQ0, EVQ1, EVQ2, EVQ3, EVQ4, EVA, EVK, EVF, ↓reduceIte, Nat.reduceEqDiff, Nat.reduceAdd, Nat.reduceSub, Nat.reduceMul, Nat.reduceLT, Nat.reduceLeDiff, reduceCtorEq, Int.reduceToNat, Int.reduceLT, Int.reduceLE, Int.reduceAdd, Int.reduceSub, Int.reduceMul, Int.reduceNeg, Int.reduceEq, Nat.reduceMod, forall_eq_or_imp, forall_eq, forall_const, cond_true, cond_false, decide_true, decide_false, true_imp_iff, implies_true, Int.cast_ofNat_Int, forall_eq']
      cases hg : (!u || !s.2)
      · simp only [↓EVP0, EVQ0, EVQ1, EVQ2, EVQ3, EVQ4, EVA, EVK, EVF, ↓reduceIte, Nat.reduceEqDiff, Nat.reduceAdd, Nat.reduceSub, Nat.reduceMul, Nat.reduceLT, Nat.reduceLeDiff, reduceCtorEq, Int.reduceToNat, Int.reduceLT, Int.reduceLE, Int.reduceAdd, Int.reduceSub, Int.reduceMul, Int.reduceNeg, Int.reduceEq, Nat.reduceMod, forall_eq_or_imp, forall_eq, forall_const, cond_true, cond_false, decide_true, decide_false, true_imp_iff, implies_true, Int.cast_ofNat_Int, forall_eq']
        unfold fin2
        simp only [↓EVP0, EVQ0, EVQ1, EVQ2, EVQ3, EVQ4, EVA, EVK, EVF, ↓reduceIte, Nat.reduceEqDiff, Nat.reduceAdd, Nat.reduceSub, Nat.reduceMul, Nat.reduceLT, Nat.reduceLeDiff, reduceCtorEq, Int.reduceToNat, Int.reduceLT, Int.reduceLE, Int.reduceAdd, Int.reduceSub, Int.reduceMul, Int.reduceNeg, Int.reduceEq, Nat.reduceMod, forall_eq_or_imp, forall_eq, forall_const, cond_true, cond_false, decide_true, decide_false, true_imp_iff, implies_true, Int.cast_ofNat_Int, forall_eq']
        exact ⟨k1, k2, a1 m, hob⟩
      · simp only [↓EVP0, EVQ0, EVQ1, EVQ2, EVQ3, EVQ4, EVA, EVK, EVF, ↓reduceIte, Nat.reduceEqDiff, Nat.reduceAdd, Nat.reduceSub, Nat.reduceMul, Nat.reduceLT, Nat.reduceLeDiff, reduceCtorEq, Int.reduceToNat, Int.reduceLT, Int.reduceLE, Int.reduceAdd, Int.reduceSub, Int.reduceMul, Int.reduceNeg, Int.reduceEq, Nat.reduceMod, forall_eq_or_imp, forall_eq, forall_const, cond_true, cond_false, decide_true, decide_false, true_imp_iff, implies_true, Int.cast_ofNat_Int, forall_eq']
        unfold fin2
        simp only [↓EVP0, EVQ0, EVQ1, EVQ2, EVQ3, EVQ4, EVA, EVK, EVF, ↓reduceIte, Nat.reduceEqDiff, Nat.reduceAdd, Nat.reduceSub, Nat.reduceMul, Nat.reduceLT, Nat.reduceLeDiff, reduceCtorEq, Int.reduceToNat, Int.reduceLT, Int.reduceLE, Int.reduceAdd, Int.reduceSub, Int.reduceMul, Int.reduceNeg, Int.reduceEq, Nat.reduceMod, forall_eq_or_imp, forall_eq, forall_const, cond_true, cond_false, decide_true, decide_false, true_imp_iff, implies_true, Int.cast_ofNat_Int, forall_eq']
        first
          | exact ⟨k1, k2, hd2, k2, e3 _, a1 _, hob⟩
          | refine ⟨k1, k2, hd2, fun h => ?_, fun h => ?_⟩
            · rw [if_pos (of_decide_eq_true h)]; exact ⟨rfl, rfl, a1 _, hob⟩
            · rw [if_neg (of_decide_eq_false h)]; exact ⟨hd2, k2, rfl, e3 _, a1 _, hob⟩
end Go.Proofs.YtcdepkflghcjpaaDoor
