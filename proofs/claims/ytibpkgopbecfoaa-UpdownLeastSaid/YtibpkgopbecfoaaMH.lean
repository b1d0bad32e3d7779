/- One element of the list of distances (for claims that leave the reference out); Chapter 18's example, and what its statements call; The arguments of the statements about plans, opened. Conditions: none. -/
import Derived.Test.YtibpkgopbecfoaaMF
namespace Go.Proofs.Ytibpkgopbecfoaa
set_option linter.unusedSimpArgs false
set_option linter.unusedVariables false
open Go.RowKit
set_option maxRecDepth 20000

theorem dL_get {n : Nat} {l : List Int} {cs : List Cb} {up : List Bool} {to : Int} {b : Bool} {i k : Nat} (h : i < k) : (dL n l cs up to b k).getD i 0 = dS n l cs up to ((i : Int), b) := by
  rw [List.getD_eq_getElem?_getD, dL, List.getElem?_map, List.getElem?_range h]; rfl
end Go.Proofs.Ytibpkgopbecfoaa
namespace Go.Proofs.Ytibpkgopbecfoaa
set_option linter.unusedSimpArgs false
set_option linter.unusedVariables false
open Go.RowKit
set_option maxRecDepth 20000

theorem ev_tri18 : Ev Try.prog 41 [] (plV triPl) := by
  unfold plV triPl
  refine ev_fn Try.func41 comp41 (show 0 ≤ Try.f41.ntmps by decide) ?_; unfold cf41 rf41; simp only [↓EVP0, EVQ0, EVQ1, EVQ2, EVQ3, EVQ4, EVA, EVK, EVF, ↓reduceIte, Nat.reduceEqDiff, Nat.reduceAdd, Nat.reduceSub, Nat.reduceMul, Nat.reduceLT, Nat.reduceLeDiff, reduceCtorEq, Int.reduceToNat, Int.reduceLT, Int.reduceLE, Int.reduceAdd, Int.reduceSub, Int.reduceMul, Int.reduceNeg, Int.reduceEq, Nat.reduceMod, forall_eq_or_imp, forall_eq, forall_const, cond_true, cond_false, decide_true, decide_false, true_imp_iff, implies_true, Int.cast_ofNat_Int, forall_eq']
  refine ⟨⟨fun i hi => ?_, fun i hi => ?_⟩, fun i hi => ?_, fun i hi => ?_⟩ <;> rcases lt3 hi with rfl | rfl | rfl <;> rfl
theorem plOk_tri : PlOk triPl := by
  refine ⟨fun n hn => ?_, fun c hc => ?_⟩
  · simp only [triPl, List.mem_cons, List.not_mem_nil, or_false] at hn
    rcases hn with rfl | rfl | rfl <;> unfold In64 <;> refine ⟨by decide, by decide, by decide⟩
  · simp only [triPl, List.mem_cons, List.not_mem_nil, or_false] at hc
    unfold In64
    rcases hc with rfl | rfl | rfl <;> simp
theorem path_tri : pathE triPl [0, 1, 1] [true, true, true] 1 2 = ([1], 0) := by kernel_rfl
theorem leg_tri1 : legalE triPl [0, 1, 1] 0 [2, 1] = false := by kernel_rfl
theorem leg_tri2 : legalE triPl [0, 1, 1] 0 [2] = true := by kernel_rfl
theorem lopsQ_ge {P : Program} {K : LS → Prop} {d : Option Nat} {t : Nat} {b : Bool} {q : LEf} {s : LS} {h : LH} (hx : evk (s t) (fun gv => gOk gv ∧ evb (gOf b gv) (fun g => Br g (lopsQ P ⟨d, none, .e q⟩ K s h) (K (updO s d .any))))) : @lopsQG P d t b q ⟨K⟩ s h := by
  show lopsQ P ⟨d, some (t, b), .e q⟩ K s h
  simp only [evk, evb] at hx
  obtain ⟨h1, h2⟩ := hx
  by_cases hg : gOf b (s t) = true
  · obtain ⟨v, h3, h4⟩ := h2.1 hg
    exact ⟨v, ⟨h1, .inl ⟨hg, h3⟩⟩, h4⟩
  · have hg' : gOf b (s t) = false := by simpa using hg
    exact ⟨_, ⟨h1, .inr (.inl ⟨hg', rfl, rfl⟩)⟩, h2.2 hg'⟩
theorem roTo2_box {h : LH} {k ver : Nat} {cs ds : List LV} (hk : k < h.n) (hv : h.f k = (ver, .box cs)) (hl : roToL h cs ds) : roTo2 h (.ptr k ver 0 0 0) (.rptr ds) := by
  refine ⟨hk, by rw [hv], rfl, rfl, rfl, ?_⟩
  rw [hv]; exact hl
theorem lwp_frz1 {P : Program} {s : LS} {h : LH} {nb : Nat} {a b : LC} {K : LS → LH → Prop} {E : Nat → LS → LH → Prop} {T : LS → LH → Prop} (D : List Nat) (t : Nat) (v : LV)
    (h1 : lwp P nb a (fun s h => (roTo2 h (s t) v ∧ hd2 D h (s t)) ∧ lwp P nb b K E T (upd s t v) (killH h D)) E T s h) : @lwpJ P nb a b ⟨K, E, T⟩ s h :=
  lwp_frz D [(t, v)] (lwp_mono_k (c := a) h1 fun _ _ ⟨⟨h2, h3⟩, h4⟩ => ⟨⟨h2, h3, trivial⟩, h4⟩)
theorem ev_awake18 : Ev Try.prog 13 [] (.sc (.bool true)) := by
  have h1 := ev_path triPl plOk_tri [0, 1, 1] [true, true, true] 1 2
  have h2 := ev_legal triPl plOk_tri [0, 1, 1] 0 [2, 1] (by simp)
  have h3 := ev_legal triPl plOk_tri [0, 1, 1] 0 [2] (by simp)
  have h4 := ev_tri18
  have h5 := ev_equal [1] [1]
  rw [path_tri] at h1
  rw [leg_tri1] at h2
  rw [leg_tri2] at h3
  unfold plV boolsV intsV at *
  refine ev_fn Try.func13 comp13 (show 0 ≤ Try.f13.ntmps by decide) ?_; unfold cf13 rf13; simp only [↓EVP0, EVQ0, EVQ1, EVQ2, EVQ3, EVQ4, EVA, EVK, EVF, ↓reduceIte, Nat.reduceEqDiff, Nat.reduceAdd, Nat.reduceSub, Nat.reduceMul, Nat.reduceLT, Nat.reduceLeDiff, reduceCtorEq, Int.reduceToNat, Int.reduceLT, Int.reduceLE, Int.reduceAdd, Int.reduceSub, Int.reduceMul, Int.reduceNeg, Int.reduceEq, Nat.reduceMod, forall_eq_or_imp, forall_eq, forall_const, cond_true, cond_false, decide_true, decide_false, true_imp_iff, implies_true, Int.cast_ofNat_Int, forall_eq']
  refine lwp_frz1 [0, 1] 1 (.rptr [.rsl 1 3 (intsF [0, 1, 1])]) ?_
  simp only [↓EVP0, EVQ0, EVQ1, EVQ2, EVQ3, EVQ4, EVA, EVK, EVF, ↓reduceIte, Nat.reduceEqDiff, Nat.reduceAdd, Nat.reduceSub, Nat.reduceMul, Nat.reduceLT, Nat.reduceLeDiff, reduceCtorEq, Int.reduceToNat, Int.reduceLT, Int.reduceLE, Int.reduceAdd, Int.reduceSub, Int.reduceMul, Int.reduceNeg, Int.reduceEq, Nat.reduceMod, forall_eq_or_imp, forall_eq, forall_const, cond_true, cond_false, decide_true, decide_false, true_imp_iff, implies_true, Int.cast_ofNat_Int, forall_eq']
  refine ⟨⟨roTo2_box (by simp [mkH]) rfl ?_, by simp⟩, ?_⟩
  · simp only [↓EVP0, EVQ0, EVQ1, EVQ2, EVQ3, EVQ4, EVA, EVK, EVF, ↓reduceIte, Nat.reduceEqDiff, Nat.reduceAdd, Nat.reduceSub, Nat.reduceMul, Nat.reduceLT, Nat.reduceLeDiff, reduceCtorEq, Int.reduceToNat, Int.reduceLT, Int.reduceLE, Int.reduceAdd, Int.reduceSub, Int.reduceMul, Int.reduceNeg, Int.reduceEq, Nat.reduceMod, forall_eq_or_imp, forall_eq, forall_const, cond_true, cond_false, decide_true, decide_false, true_imp_iff, implies_true, Int.cast_ofNat_Int, forall_eq']
    try (intro i hi; rcases lt3 hi with rfl | rfl | rfl <;> exact ⟨rfl, trivial, trivial⟩)
  first | refine qCallK_ro (h4) ?_ ?_ | refine eCallK_ro (h4) ?_ ?_
  · simp only [↓EVP0, EVQ0, EVQ1, EVQ2, EVQ3, EVQ4, EVA, EVK, EVF, ↓reduceIte, Nat.reduceEqDiff, Nat.reduceAdd, Nat.reduceSub, Nat.reduceMul, Nat.reduceLT, Nat.reduceLeDiff, reduceCtorEq, Int.reduceToNat, Int.reduceLT, Int.reduceLE, Int.reduceAdd, Int.reduceSub, Int.reduceMul, Int.reduceNeg, Int.reduceEq, Nat.reduceMod, forall_eq_or_imp, forall_eq, forall_const, cond_true, cond_false, decide_true, decide_false, true_imp_iff, implies_true, Int.cast_ofNat_Int, forall_eq']
  simp only [↓EVP0, EVQ0, EVQ1, EVQ2, EVQ3, EVQ4, EVA, EVK, EVF, ↓reduceIte, Nat.reduceEqDiff, Nat.reduceAdd, Nat.reduceSub, Nat.reduceMul, Nat.reduceLT, Nat.reduceLeDiff, reduceCtorEq, Int.reduceToNat, Int.reduceLT, Int.reduceLE, Int.reduceAdd, Int.reduceSub, Int.reduceMul, Int.reduceNeg, Int.reduceEq, Nat.reduceMod, forall_eq_or_imp, forall_eq, forall_const, cond_true, cond_false, decide_true, decide_false, true_imp_iff, implies_true, Int.cast_ofNat_Int, forall_eq']
  refine ⟨boolsF [true, true, true], fun i hi => ?_, ?_⟩
  · rcases lt3 hi with rfl | rfl | rfl <;> rfl
  first | refine qCallK_ro (h1) ?_ ?_ | refine eCallK_ro (h1) ?_ ?_
  · simp only [↓EVP0, EVQ0, EVQ1, EVQ2, EVQ3, EVQ4, EVA, EVK, EVF, ↓reduceIte, Nat.reduceEqDiff, Nat.reduceAdd, Nat.reduceSub, Nat.reduceMul, Nat.reduceLT, Nat.reduceLeDiff, reduceCtorEq, Int.reduceToNat, Int.reduceLT, Int.reduceLE, Int.reduceAdd, Int.reduceSub, Int.reduceMul, Int.reduceNeg, Int.reduceEq, Nat.reduceMod, forall_eq_or_imp, forall_eq, forall_const, cond_true, cond_false, decide_true, decide_false, true_imp_iff, implies_true, Int.cast_ofNat_Int, forall_eq']
  simp only [↓EVP0, EVQ0, EVQ1, EVQ2, EVQ3, EVQ4, EVA, EVK, EVF, ↓reduceIte, Nat.reduceEqDiff, Nat.reduceAdd, Nat.reduceSub, Nat.reduceMul, Nat.reduceLT, Nat.reduceLeDiff, reduceCtorEq, Int.reduceToNat, Int.reduceLT, Int.reduceLE, Int.reduceAdd, Int.reduceSub, Int.reduceMul, Int.reduceNeg, Int.reduceEq, Nat.reduceMod, forall_eq_or_imp, forall_eq, forall_const, cond_true, cond_false, decide_true, decide_false, true_imp_iff, implies_true, Int.cast_ofNat_Int, forall_eq']
  refine lopsQ_ge ?_
  simp only [↓EVP0, EVQ0, EVQ1, EVQ2, EVQ3, EVQ4, EVA, EVK, EVF, ↓reduceIte, Nat.reduceEqDiff, Nat.reduceAdd, Nat.reduceSub, Nat.reduceMul, Nat.reduceLT, Nat.reduceLeDiff, reduceCtorEq, Int.reduceToNat, Int.reduceLT, Int.reduceLE, Int.reduceAdd, Int.reduceSub, Int.reduceMul, Int.reduceNeg, Int.reduceEq, Nat.reduceMod, forall_eq_or_imp, forall_eq, forall_const, cond_true, cond_false, decide_true, decide_false, true_imp_iff, implies_true, Int.cast_ofNat_Int, forall_eq']
  refine ⟨intsF [1], fun i hi => ?_, ?_⟩
  · obtain rfl : i = 0 := by omega
    rfl
  (first | refine lopsQ_gcall ?_ | refine lopsQ_gecl ?_); (simp only [↓EVP0, EVQ0, EVQ1, EVQ2, EVQ3, EVQ4, EVA, EVK, EVF, ↓reduceIte, Nat.reduceEqDiff, Nat.reduceAdd, Nat.reduceSub, Nat.reduceMul, Nat.reduceLT, Nat.reduceLeDiff, reduceCtorEq, Int.reduceToNat, Int.reduceLT, Int.reduceLE, Int.reduceAdd, Int.reduceSub, Int.reduceMul, Int.reduceNeg, Int.reduceEq, Nat.reduceMod, forall_eq_or_imp, forall_eq, forall_const, cond_true, cond_false, decide_true, decide_false, true_imp_iff, implies_true, Int.cast_ofNat_Int, forall_eq'])
  first | refine gCallK_ro _ (fun _ => h5) (fun _ => ?_) ?_ | refine geCallK_ro _ (fun _ => h5) (fun _ => ?_) ?_
  · simp only [↓EVP0, EVQ0, EVQ1, EVQ2, EVQ3, EVQ4, EVA, EVK, EVF, ↓reduceIte, Nat.reduceEqDiff, Nat.reduceAdd, Nat.reduceSub, Nat.reduceMul, Nat.reduceLT, Nat.reduceLeDiff, reduceCtorEq, Int.reduceToNat, Int.reduceLT, Int.reduceLE, Int.reduceAdd, Int.reduceSub, Int.reduceMul, Int.reduceNeg, Int.reduceEq, Nat.reduceMod, forall_eq_or_imp, forall_eq, forall_const, cond_true, cond_false, decide_true, decide_false, true_imp_iff, implies_true, Int.cast_ofNat_Int, forall_eq']
  simp only [↓EVP0, EVQ0, EVQ1, EVQ2, EVQ3, EVQ4, EVA, EVK, EVF, ↓reduceIte, Nat.reduceEqDiff, Nat.reduceAdd, Nat.reduceSub, Nat.reduceMul, Nat.reduceLT, Nat.reduceLeDiff, reduceCtorEq, Int.reduceToNat, Int.reduceLT, Int.reduceLE, Int.reduceAdd, Int.reduceSub, Int.reduceMul, Int.reduceNeg, Int.reduceEq, Nat.reduceMod, forall_eq_or_imp, forall_eq, forall_const, cond_true, cond_false, decide_true, decide_false, true_imp_iff, implies_true, Int.cast_ofNat_Int, forall_eq']
  (first | refine lopsQ_gcall ?_ | refine lopsQ_gecl ?_); (simp only [↓EVP0, EVQ0, EVQ1, EVQ2, EVQ3, EVQ4, EVA, EVK, EVF, ↓reduceIte, Nat.reduceEqDiff, Nat.reduceAdd, Nat.reduceSub, Nat.reduceMul, Nat.reduceLT, Nat.reduceLeDiff, reduceCtorEq, Int.reduceToNat, Int.reduceLT, Int.reduceLE, Int.reduceAdd, Int.reduceSub, Int.reduceMul, Int.reduceNeg, Int.reduceEq, Nat.reduceMod, forall_eq_or_imp, forall_eq, forall_const, cond_true, cond_false, decide_true, decide_false, true_imp_iff, implies_true, Int.cast_ofNat_Int, forall_eq'])
  first | refine gCallK_ro _ (fun _ => h4) (fun _ => ?_) ?_ | refine geCallK_ro _ (fun _ => h4) (fun _ => ?_) ?_
  · simp only [↓EVP0, EVQ0, EVQ1, EVQ2, EVQ3, EVQ4, EVA, EVK, EVF, ↓reduceIte, Nat.reduceEqDiff, Nat.reduceAdd, Nat.reduceSub, Nat.reduceMul, Nat.reduceLT, Nat.reduceLeDiff, reduceCtorEq, Int.reduceToNat, Int.reduceLT, Int.reduceLE, Int.reduceAdd, Int.reduceSub, Int.reduceMul, Int.reduceNeg, Int.reduceEq, Nat.reduceMod, forall_eq_or_imp, forall_eq, forall_const, cond_true, cond_false, decide_true, decide_false, true_imp_iff, implies_true, Int.cast_ofNat_Int, forall_eq']
  simp only [↓EVP0, EVQ0, EVQ1, EVQ2, EVQ3, EVQ4, EVA, EVK, EVF, ↓reduceIte, Nat.reduceEqDiff, Nat.reduceAdd, Nat.reduceSub, Nat.reduceMul, Nat.reduceLT, Nat.reduceLeDiff, reduceCtorEq, Int.reduceToNat, Int.reduceLT, Int.reduceLE, Int.reduceAdd, Int.reduceSub, Int.reduceMul, Int.reduceNeg, Int.reduceEq, Nat.reduceMod, forall_eq_or_imp, forall_eq, forall_const, cond_true, cond_false, decide_true, decide_false, true_imp_iff, implies_true, Int.cast_ofNat_Int, forall_eq']
  refine lopsQ_ge ?_
  simp only [↓EVP0, EVQ0, EVQ1, EVQ2, EVQ3, EVQ4, EVA, EVK, EVF, ↓reduceIte, Nat.reduceEqDiff, Nat.reduceAdd, Nat.reduceSub, Nat.reduceMul, Nat.reduceLT, Nat.reduceLeDiff, reduceCtorEq, Int.reduceToNat, Int.reduceLT, Int.reduceLE, Int.reduceAdd, Int.reduceSub, Int.reduceMul, Int.reduceNeg, Int.reduceEq, Nat.reduceMod, forall_eq_or_imp, forall_eq, forall_const, cond_true, cond_false, decide_true, decide_false, true_imp_iff, implies_true, Int.cast_ofNat_Int, forall_eq']
  refine ⟨intsF [2, 1], fun i hi => ?_, ?_⟩
  · obtain rfl | rfl : i = 0 ∨ i = 1 := by omega
    all_goals rfl
  (first | refine lopsQ_gcall ?_ | refine lopsQ_gecl ?_); (simp only [↓EVP0, EVQ0, EVQ1, EVQ2, EVQ3, EVQ4, EVA, EVK, EVF, ↓reduceIte, Nat.reduceEqDiff, Nat.reduceAdd, Nat.reduceSub, Nat.reduceMul, Nat.reduceLT, Nat.reduceLeDiff, reduceCtorEq, Int.reduceToNat, Int.reduceLT, Int.reduceLE, Int.reduceAdd, Int.reduceSub, Int.reduceMul, Int.reduceNeg, Int.reduceEq, Nat.reduceMod, forall_eq_or_imp, forall_eq, forall_const, cond_true, cond_false, decide_true, decide_false, true_imp_iff, implies_true, Int.cast_ofNat_Int, forall_eq'])
  first | refine gCallK_ro _ (fun _ => h2) (fun _ => ?_) ?_ | refine geCallK_ro _ (fun _ => h2) (fun _ => ?_) ?_
  · simp only [↓EVP0, EVQ0, EVQ1, EVQ2, EVQ3, EVQ4, EVA, EVK, EVF, ↓reduceIte, Nat.reduceEqDiff, Nat.reduceAdd, Nat.reduceSub, Nat.reduceMul, Nat.reduceLT, Nat.reduceLeDiff, reduceCtorEq, Int.reduceToNat, Int.reduceLT, Int.reduceLE, Int.reduceAdd, Int.reduceSub, Int.reduceMul, Int.reduceNeg, Int.reduceEq, Nat.reduceMod, forall_eq_or_imp, forall_eq, forall_const, cond_true, cond_false, decide_true, decide_false, true_imp_iff, implies_true, Int.cast_ofNat_Int, forall_eq']
  simp only [↓EVP0, EVQ0, EVQ1, EVQ2, EVQ3, EVQ4, EVA, EVK, EVF, ↓reduceIte, Nat.reduceEqDiff, Nat.reduceAdd, Nat.reduceSub, Nat.reduceMul, Nat.reduceLT, Nat.reduceLeDiff, reduceCtorEq, Int.reduceToNat, Int.reduceLT, Int.reduceLE, Int.reduceAdd, Int.reduceSub, Int.reduceMul, Int.reduceNeg, Int.reduceEq, Nat.reduceMod, forall_eq_or_imp, forall_eq, forall_const, cond_true, cond_false, decide_true, decide_false, true_imp_iff, implies_true, Int.cast_ofNat_Int, forall_eq']
  (first | refine lopsQ_gcall ?_ | refine lopsQ_gecl ?_); (simp only [↓EVP0, EVQ0, EVQ1, EVQ2, EVQ3, EVQ4, EVA, EVK, EVF, ↓reduceIte, Nat.reduceEqDiff, Nat.reduceAdd, Nat.reduceSub, Nat.reduceMul, Nat.reduceLT, Nat.reduceLeDiff, reduceCtorEq, Int.reduceToNat, Int.reduceLT, Int.reduceLE, Int.reduceAdd, Int.reduceSub, Int.reduceMul, Int.reduceNeg, Int.reduceEq, Nat.reduceMod, forall_eq_or_imp, forall_eq, forall_const, cond_true, cond_false, decide_true, decide_false, true_imp_iff, implies_true, Int.cast_ofNat_Int, forall_eq'])
  first | refine gCallK_ro _ (fun _ => h4) (fun _ => ?_) ?_ | refine geCallK_ro _ (fun _ => h4) (fun _ => ?_) ?_
  · simp only [↓EVP0, EVQ0, EVQ1, EVQ2, EVQ3, EVQ4, EVA, EVK, EVF, ↓reduceIte, Nat.reduceEqDiff, Nat.reduceAdd, Nat.reduceSub, Nat.reduceMul, Nat.reduceLT, Nat.reduceLeDiff, reduceCtorEq, Int.reduceToNat, Int.reduceLT, Int.reduceLE, Int.reduceAdd, Int.reduceSub, Int.reduceMul, Int.reduceNeg, Int.reduceEq, Nat.reduceMod, forall_eq_or_imp, forall_eq, forall_const, cond_true, cond_false, decide_true, decide_false, true_imp_iff, implies_true, Int.cast_ofNat_Int, forall_eq']
  simp only [↓EVP0, EVQ0, EVQ1, EVQ2, EVQ3, EVQ4, EVA, EVK, EVF, ↓reduceIte, Nat.reduceEqDiff, Nat.reduceAdd, Nat.reduceSub, Nat.reduceMul, Nat.reduceLT, Nat.reduceLeDiff, reduceCtorEq, Int.reduceToNat, Int.reduceLT, Int.reduceLE, Int.reduceAdd, Int.reduceSub, Int.reduceMul, Int.reduceNeg, Int.reduceEq, Nat.reduceMod, forall_eq_or_imp, forall_eq, forall_const, cond_true, cond_false, decide_true, decide_false, true_imp_iff, implies_true, Int.cast_ofNat_Int, forall_eq']
  refine lopsQ_ge ?_
  simp only [↓EVP0, EVQ0, EVQ1, EVQ2, EVQ3, EVQ4, EVA, EVK, EVF, ↓reduceIte, Nat.reduceEqDiff, Nat.reduceAdd, Nat.reduceSub, Nat.reduceMul, Nat.reduceLT, Nat.reduceLeDiff, reduceCtorEq, Int.reduceToNat, Int.reduceLT, Int.reduceLE, Int.reduceAdd, Int.reduceSub, Int.reduceMul, Int.reduceNeg, Int.reduceEq, Nat.reduceMod, forall_eq_or_imp, forall_eq, forall_const, cond_true, cond_false, decide_true, decide_false, true_imp_iff, implies_true, Int.cast_ofNat_Int, forall_eq']
  refine ⟨intsF [2], fun i hi => ?_, ?_⟩
  · obtain rfl : i = 0 := by omega
    rfl
  (first | refine lopsQ_gcall ?_ | refine lopsQ_gecl ?_); (simp only [↓EVP0, EVQ0, EVQ1, EVQ2, EVQ3, EVQ4, EVA, EVK, EVF, ↓reduceIte, Nat.reduceEqDiff, Nat.reduceAdd, Nat.reduceSub, Nat.reduceMul, Nat.reduceLT, Nat.reduceLeDiff, reduceCtorEq, Int.reduceToNat, Int.reduceLT, Int.reduceLE, Int.reduceAdd, Int.reduceSub, Int.reduceMul, Int.reduceNeg, Int.reduceEq, Nat.reduceMod, forall_eq_or_imp, forall_eq, forall_const, cond_true, cond_false, decide_true, decide_false, true_imp_iff, implies_true, Int.cast_ofNat_Int, forall_eq'])
  first | refine gCallK_ro _ (fun _ => h3) (fun _ => ?_) ?_ | refine geCallK_ro _ (fun _ => h3) (fun _ => ?_) ?_
  · simp only [↓EVP0, EVQ0, EVQ1, EVQ2, EVQ3, EVQ4, EVA, EVK, EVF, ↓reduceIte, Nat.reduceEqDiff, Nat.reduceAdd, Nat.reduceSub, Nat.reduceMul, Nat.reduceLT, Nat.reduceLeDiff, reduceCtorEq, Int.reduceToNat, Int.reduceLT, Int.reduceLE, Int.reduceAdd, Int.reduceSub, Int.reduceMul, Int.reduceNeg, Int.reduceEq, Nat.reduceMod, forall_eq_or_imp, forall_eq, forall_const, cond_true, cond_false, decide_true, decide_false, true_imp_iff, implies_true, Int.cast_ofNat_Int, forall_eq']
  simp only [↓EVP0, EVQ0, EVQ1, EVQ2, EVQ3, EVQ4, EVA, EVK, EVF, ↓reduceIte, Nat.reduceEqDiff, Nat.reduceAdd, Nat.reduceSub, Nat.reduceMul, Nat.reduceLT, Nat.reduceLeDiff, reduceCtorEq, Int.reduceToNat, Int.reduceLT, Int.reduceLE, Int.reduceAdd, Int.reduceSub, Int.reduceMul, Int.reduceNeg, Int.reduceEq, Nat.reduceMod, forall_eq_or_imp, forall_eq, forall_const, cond_true, cond_false, decide_true, decide_false, true_imp_iff, implies_true, Int.cast_ofNat_Int, forall_eq']
def greatB (p : Pl) (l : List Int) : Bool := (decide (20 < p.ns.length) || decide (40 < p.cs.length)) || decide (30 < l.length)
theorem ev_great (p : Pl) (l : List Int) : Ev Try.prog 14 [plV p, .agg [intsV l]] (.sc (.bool (greatB p l))) := by
  unfold plV intsV
  refine ev_fn Try.func14 comp14 (show 2 ≤ Try.f14.ntmps by decide) ?_; unfold cf14 rf14; simp only [↓EVP0, EVQ0, EVQ1, EVQ2, EVQ3, EVQ4, EVA, EVK, EVF, ↓reduceIte, Nat.reduceEqDiff, Nat.reduceAdd, Nat.reduceSub, Nat.reduceMul, Nat.reduceLT, Nat.reduceLeDiff, reduceCtorEq, Int.reduceToNat, Int.reduceLT, Int.reduceLE, Int.reduceAdd, Int.reduceSub, Int.reduceMul, Int.reduceNeg, Int.reduceEq, Nat.reduceMod, forall_eq_or_imp, forall_eq, forall_const, cond_true, cond_false, decide_true, decide_false, true_imp_iff, implies_true, Int.cast_ofNat_Int, forall_eq']
  unfold greatB
  intro _
  rw [condT, condT]
  congr 1
  · congr 1 <;> exact decide_eq_decide.2 (by omega)
  · exact decide_eq_decide.2 (by omega)
theorem ev_validL (p : Pl) (l : List Int) : Ev Try.prog 20 [plV p, .agg [intsV l]] (.sc (.bool (decide (validE p = 0) && ordB p l))) := by
  have h1 := ev_ref14 p
  have h2 := fun hv => ev_fits p hv l
  unfold plV intsV at *
  refine ev_fn Try.func20 comp20 (show 2 ≤ Try.f20.ntmps by decide) ?_; unfold cf20 rf20; simp only [↓EVP0, EVQ0, EVQ1, EVQ2, EVQ3, EVQ4, EVA, EVK, EVF, ↓reduceIte, Nat.reduceEqDiff, Nat.reduceAdd, Nat.reduceSub, Nat.reduceMul, Nat.reduceLT, Nat.reduceLeDiff, reduceCtorEq, Int.reduceToNat, Int.reduceLT, Int.reduceLE, Int.reduceAdd, Int.reduceSub, Int.reduceMul, Int.reduceNeg, Int.reduceEq, Nat.reduceMod, forall_eq_or_imp, forall_eq, forall_const, cond_true, cond_false, decide_true, decide_false, true_imp_iff, implies_true, Int.cast_ofNat_Int, forall_eq']
  refine callK_ro (h1) ?_ ?_
  · simp only [↓EVP0, EVQ0, EVQ1, EVQ2, EVQ3, EVQ4, EVA, EVK, EVF, ↓reduceIte, Nat.reduceEqDiff, Nat.reduceAdd, Nat.reduceSub, Nat.reduceMul, Nat.reduceLT, Nat.reduceLeDiff, reduceCtorEq, Int.reduceToNat, Int.reduceLT, Int.reduceLE, Int.reduceAdd, Int.reduceSub, Int.reduceMul, Int.reduceNeg, Int.reduceEq, Nat.reduceMod, forall_eq_or_imp, forall_eq, forall_const, cond_true, cond_false, decide_true, decide_false, true_imp_iff, implies_true, Int.cast_ofNat_Int, forall_eq']
  simp only [↓EVP0, EVQ0, EVQ1, EVQ2, EVQ3, EVQ4, EVA, EVK, EVF, ↓reduceIte, Nat.reduceEqDiff, Nat.reduceAdd, Nat.reduceSub, Nat.reduceMul, Nat.reduceLT, Nat.reduceLeDiff, reduceCtorEq, Int.reduceToNat, Int.reduceLT, Int.reduceLE, Int.reduceAdd, Int.reduceSub, Int.reduceMul, Int.reduceNeg, Int.reduceEq, Nat.reduceMod, forall_eq_or_imp, forall_eq, forall_const, cond_true, cond_false, decide_true, decide_false, true_imp_iff, implies_true, Int.cast_ofNat_Int, forall_eq']
  (refine lops_ge_imp ?_; simp only [↓EVP0, EVQ0, EVQ1, EVQ2, EVQ3, EVQ4, EVA, EVK, EVF, ↓reduceIte, Nat.reduceEqDiff, Nat.reduceAdd, Nat.reduceSub, Nat.reduceMul, Nat.reduceLT, Nat.reduceLeDiff, reduceCtorEq, Int.reduceToNat, Int.reduceLT, Int.reduceLE, Int.reduceAdd, Int.reduceSub, Int.reduceMul, Int.reduceNeg, Int.reduceEq, Nat.reduceMod, forall_eq_or_imp, forall_eq, forall_const, cond_true, cond_false, decide_true, decide_false, true_imp_iff, implies_true, Int.cast_ofNat_Int, forall_eq'])
  refine gCallK_ro (.sc (.bool (fitsB p l))) (fun hg => h2 (by simpa using hg)) (fun _ => ?_) ?_
  · simp only [↓EVP0, EVQ0, EVQ1, EVQ2, EVQ3, EVQ4, EVA, EVK, EVF, ↓reduceIte, Nat.reduceEqDiff, Nat.reduceAdd, Nat.reduceSub, Nat.reduceMul, Nat.reduceLT, Nat.reduceLeDiff, reduceCtorEq, Int.reduceToNat, Int.reduceLT, Int.reduceLE, Int.reduceAdd, Int.reduceSub, Int.reduceMul, Int.reduceNeg, Int.reduceEq, Nat.reduceMod, forall_eq_or_imp, forall_eq, forall_const, cond_true, cond_false, decide_true, decide_false, true_imp_iff, implies_true, Int.cast_ofNat_Int, forall_eq']
  simp only [↓EVP0, EVQ0, EVQ1, EVQ2, EVQ3, EVQ4, EVA, EVK, EVF, ↓reduceIte, Nat.reduceEqDiff, Nat.reduceAdd, Nat.reduceSub, Nat.reduceMul, Nat.reduceLT, Nat.reduceLeDiff, reduceCtorEq, Int.reduceToNat, Int.reduceLT, Int.reduceLE, Int.reduceAdd, Int.reduceSub, Int.reduceMul, Int.reduceNeg, Int.reduceEq, Nat.reduceMod, forall_eq_or_imp, forall_eq, forall_const, cond_true, cond_false, decide_true, decide_false, true_imp_iff, implies_true, Int.cast_ofNat_Int, forall_eq']
  rw [condF]
  by_cases hv : validE p = 0
  · rw [decide_eq_true hv, fits_ord hv]
  · rw [decide_eq_false hv]; rfl
theorem ev_nodeL (p : Pl) (x : Int) : Ev Try.prog 23 [plV p, .sc (.int .i64 x)] (.sc (.bool (nodB p x))) := by
  unfold plV
  refine ev_fn Try.func23 comp23 (show 2 ≤ Try.f23.ntmps by decide) ?_; unfold cf23 rf23; simp only [↓EVP0, EVQ0, EVQ1, EVQ2, EVQ3, EVQ4, EVA, EVK, EVF, ↓reduceIte, Nat.reduceEqDiff, Nat.reduceAdd, Nat.reduceSub, Nat.reduceMul, Nat.reduceLT, Nat.reduceLeDiff, reduceCtorEq, Int.reduceToNat, Int.reduceLT, Int.reduceLE, Int.reduceAdd, Int.reduceSub, Int.reduceMul, Int.reduceNeg, Int.reduceEq, Nat.reduceMod, forall_eq_or_imp, forall_eq, forall_const, cond_true, cond_false, decide_true, decide_false, true_imp_iff, implies_true, Int.cast_ofNat_Int, forall_eq']
  rw [condF]; rfl
def fitB (p : Pl) (l : List Int) (up : List Bool) : Bool := (decide (p.ns.length ≤ 8) && decide (p.cs.length ≤ 16)) && (decide (validE p = 0) && (decide (up.length = p.cs.length) && ordB p l))
theorem ev_fit (p : Pl) (l : List Int) (up : List Bool) : Ev Try.prog 27 [plV p, .agg [intsV l], boolsV up] (.sc (.bool (fitB p l up))) := by
  have h1 := ev_ref14 p
  have h2 := fun hv => ev_fits p hv l
  unfold plV intsV boolsV at *
  refine ev_fn Try.func27 comp27 (show 3 ≤ Try.f27.ntmps by decide) ?_; unfold cf27 rf27; simp only [↓EVP0, EVQ0, EVQ1, EVQ2, EVQ3, EVQ4, EVA, EVK, EVF, ↓reduceIte, Nat.reduceEqDiff, Nat.reduceAdd, Nat.reduceSub, Nat.reduceMul, Nat.reduceLT, Nat.reduceLeDiff, reduceCtorEq, Int.reduceToNat, Int.reduceLT, Int.reduceLE, Int.reduceAdd, Int.reduceSub, Int.reduceMul, Int.reduceNeg, Int.reduceEq, Nat.reduceMod, forall_eq_or_imp, forall_eq, forall_const, cond_true, cond_false, decide_true, decide_false, true_imp_iff, implies_true, Int.cast_ofNat_Int, forall_eq']
  intro _
  (refine lops_ge_imp ?_; simp only [↓EVP0, EVQ0, EVQ1, EVQ2, EVQ3, EVQ4, EVA, EVK, EVF, ↓reduceIte, Nat.reduceEqDiff, Nat.reduceAdd, Nat.reduceSub, Nat.reduceMul, Nat.reduceLT, Nat.reduceLeDiff, reduceCtorEq, Int.reduceToNat, Int.reduceLT, Int.reduceLE, Int.reduceAdd, Int.reduceSub, Int.reduceMul, Int.reduceNeg, Int.reduceEq, Nat.reduceMod, forall_eq_or_imp, forall_eq, forall_const, cond_true, cond_false, decide_true, decide_false, true_imp_iff, implies_true, Int.cast_ofNat_Int, forall_eq'])
  refine gCallK_ro _ (fun _ => h1) (fun _ => ?_) ?_
  · simp only [↓EVP0, EVQ0, EVQ1, EVQ2, EVQ3, EVQ4, EVA, EVK, EVF, ↓reduceIte, Nat.reduceEqDiff, Nat.reduceAdd, Nat.reduceSub, Nat.reduceMul, Nat.reduceLT, Nat.reduceLeDiff, reduceCtorEq, Int.reduceToNat, Int.reduceLT, Int.reduceLE, Int.reduceAdd, Int.reduceSub, Int.reduceMul, Int.reduceNeg, Int.reduceEq, Nat.reduceMod, forall_eq_or_imp, forall_eq, forall_const, cond_true, cond_false, decide_true, decide_false, true_imp_iff, implies_true, Int.cast_ofNat_Int, forall_eq']
  simp only [↓EVP0, EVQ0, EVQ1, EVQ2, EVQ3, EVQ4, EVA, EVK, EVF, ↓reduceIte, Nat.reduceEqDiff, Nat.reduceAdd, Nat.reduceSub, Nat.reduceMul, Nat.reduceLT, Nat.reduceLeDiff, reduceCtorEq, Int.reduceToNat, Int.reduceLT, Int.reduceLE, Int.reduceAdd, Int.reduceSub, Int.reduceMul, Int.reduceNeg, Int.reduceEq, Nat.reduceMod, forall_eq_or_imp, forall_eq, forall_const, cond_true, cond_false, decide_true, decide_false, true_imp_iff, implies_true, Int.cast_ofNat_Int, forall_eq']
  (refine lops_ge_imp ?_; simp only [↓EVP0, EVQ0, EVQ1, EVQ2, EVQ3, EVQ4, EVA, EVK, EVF, ↓reduceIte, Nat.reduceEqDiff, Nat.reduceAdd, Nat.reduceSub, Nat.reduceMul, Nat.reduceLT, Nat.reduceLeDiff, reduceCtorEq, Int.reduceToNat, Int.reduceLT, Int.reduceLE, Int.reduceAdd, Int.reduceSub, Int.reduceMul, Int.reduceNeg, Int.reduceEq, Nat.reduceMod, forall_eq_or_imp, forall_eq, forall_const, cond_true, cond_false, decide_true, decide_false, true_imp_iff, implies_true, Int.cast_ofNat_Int, forall_eq'])
  refine gCallK_ro (.sc (.bool (fitsB p l))) (fun hg => h2 ?_) (fun _ => ?_) ?_
  · simp only [condF, Bool.and_eq_true, decide_eq_true_eq] at hg; exact hg.1.2
  · simp only [↓EVP0, EVQ0, EVQ1, EVQ2, EVQ3, EVQ4, EVA, EVK, EVF, ↓reduceIte, Nat.reduceEqDiff, Nat.reduceAdd, Nat.reduceSub, Nat.reduceMul, Nat.reduceLT, Nat.reduceLeDiff, reduceCtorEq, Int.reduceToNat, Int.reduceLT, Int.reduceLE, Int.reduceAdd, Int.reduceSub, Int.reduceMul, Int.reduceNeg, Int.reduceEq, Nat.reduceMod, forall_eq_or_imp, forall_eq, forall_const, cond_true, cond_false, decide_true, decide_false, true_imp_iff, implies_true, Int.cast_ofNat_Int, forall_eq']
  simp only [↓EVP0, EVQ0, EVQ1, EVQ2, EVQ3, EVQ4, EVA, EVK, EVF, ↓reduceIte, Nat.reduceEqDiff, Nat.reduceAdd, Nat.reduceSub, Nat.reduceMul, Nat.reduceLT, Nat.reduceLeDiff, reduceCtorEq, Int.reduceToNat, Int.reduceLT, Int.reduceLE, Int.reduceAdd, Int.reduceSub, Int.reduceMul, Int.reduceNeg, Int.reduceEq, Nat.reduceMod, forall_eq_or_imp, forall_eq, forall_const, cond_true, cond_false, decide_true, decide_false, true_imp_iff, implies_true, Int.cast_ofNat_Int, forall_eq']
  simp only [condF]
  unfold fitB
  have e1 : decide ((p.ns.length : Int) ≤ 8) = decide (p.ns.length ≤ 8) := decide_eq_decide.2 (by omega)
  have e2 : decide ((p.cs.length : Int) ≤ 16) = decide (p.cs.length ≤ 16) := decide_eq_decide.2 (by omega)
  have e3 : decide ((up.length : Int) = p.cs.length) = decide (up.length = p.cs.length) := decide_eq_decide.2 (by omega)
  rw [e1, e2, e3]
  by_cases hv : validE p = 0
  · rw [fits_ord hv]; simp only [Bool.and_assoc]
  · rw [decide_eq_false hv]; simp
end Go.Proofs.Ytibpkgopbecfoaa
namespace Go.Proofs.Ytibpkgopbecfoaa
set_option linter.unusedSimpArgs false
set_option linter.unusedVariables false
open Go.RowKit
set_option maxRecDepth 100000

theorem in64_of {n : Int} (h : (Lit.int .i64 n).wf = true) : In64 n := by
  have h1 : IntKind.i64.min = -9223372036854775808 := by decide
  have h2 : IntKind.i64.max = 9223372036854775807 := by decide
  simp [Lit.wf, h1, h2] at h
  exact h
theorem fit_i64 {d : Nat} {t : TypeId} (ht : Try.prog.underlying t = some (.int .i64)) {ls : List LV} (h : fitT Try.prog d t ls) : ∃ n, ls = [.sc (.int .i64 n)] ∧ In64 n := by
  cases d with
  | zero => exact h.elim
  | succ d =>
    unfold fitT at h; rw [ht] at h
    obtain ⟨n, rfl, hw⟩ := h
    exact ⟨n, rfl, in64_of hw⟩
theorem fit_bool {d : Nat} {t : TypeId} (ht : Try.prog.underlying t = some .bool) {ls : List LV} (h : fitT Try.prog d t ls) : ∃ b, ls = [.sc (.bool b)] := by
  cases d with
  | zero => exact h.elim
  | succ d => unfold fitT at h; rw [ht] at h; exact h
theorem fit_str {d : Nat} {t : TypeId} (ht : Try.prog.underlying t = some .string) {ls : List LV} (h : fitT Try.prog d t ls) : ∃ s : ByteArray, ls = [.sc (.string s)] ∧ s.size ≤ maxLen := by
  cases d with
  | zero => exact h.elim
  | succ d => unfold fitT at h; rw [ht] at h; exact h
theorem fit_sl {d : Nat} {t e : TypeId} (ht : Try.prog.underlying t = some (.slice e)) {ls : List LV} (h : fitT Try.prog d t ls) : ∃ d' n f, ls = [.rsl (Try.prog.cellsOf e) n f] ∧ n ≤ maxLen ∧ ∀ i, i < n → fitT Try.prog d' e (f i) := by
  cases d with
  | zero => exact h.elim
  | succ d => unfold fitT at h; rw [ht] at h; obtain ⟨n, f, h⟩ := h; exact ⟨d, n, f, h⟩
theorem fit_struct {d : Nat} {t : TypeId} {fs : Array Field} (ht : Try.prog.underlying t = some (.struct fs)) {ls : List LV} (h : fitT Try.prog d t ls) : ls.length = Try.prog.cellsOf t ∧ ∃ d', ∀ (i : Nat) (f : Field), fs[i]? = some f → fitT Try.prog d' f.type ((ls.drop f.offset).take (Try.prog.cellsOf f.type)) := by
  cases d with
  | zero => exact h.elim
  | succ d => unfold fitT at h; rw [ht] at h; exact ⟨h.1, d, h.2⟩
theorem rsl_congr {z n : Nat} {f g : Nat → List LV} (h : ∀ i, i < n → f i = g i) {R : RO} {v : Value} (hr : Ro R (.rsl z n f) v) : Ro R (.rsl z n g) v := by
  cases hr with
  | rsl _ _ _ a cap b o w hc hm ha hf hcell hv hp =>
    exact .rsl _ _ _ a cap b o w hc hm ha (fun i hi => by rw [← h i hi]; exact hf i hi) hcell (fun i j c hi hj => hv i j c hi (by rw [h i hi]; exact hj)) hp
/-- A list out of a function on numbers. -/
def listOf {α : Type} (n : Nat) (g : Nat → α) : List α := (List.range n).map g
theorem listOf_get {α : Type} (n : Nat) (g : Nat → α) (d : α) {i : Nat} (hi : i < n) : (listOf n g).getD i d = g i := by
  rw [List.getD_eq_getElem?_getD, listOf, List.getElem?_map, List.getElem?_range hi]; rfl
theorem listOf_len {α : Type} (n : Nat) (g : Nat → α) : (listOf n g).length = n := by simp [listOf]
theorem listOf_mem {α : Type} {n : Nat} {g : Nat → α} {x : α} (h : x ∈ listOf n g) : ∃ i, i < n ∧ g i = x := by
  simp only [listOf, List.mem_map, List.mem_range] at h; exact h
def flat1 (P : Program) (fs : List Field) : Nat → Bool
  | n => decide (fs.length = n) && (List.range n).all fun i => match fs[i]? with
    | some f => decide (f.offset = i) && decide (P.cellsOf f.type = 1)
    | none => false
theorem fit_flat {d n : Nat} {t : TypeId} {fs : Array Field} (ht : Try.prog.underlying t = some (.struct fs)) (hn : Try.prog.cellsOf t = n) (hf : flat1 Try.prog fs.toList n = true) {ls : List LV} (h : fitT Try.prog d t ls) :
    ls.length = n ∧ ∃ d', ∀ (i : Nat) (f : Field), fs[i]? = some f → ∃ x, ls[i]? = some x ∧ fitT Try.prog d' f.type [x] := by
  obtain ⟨h1, d', h2⟩ := fit_struct ht h
  rw [hn] at h1
  refine ⟨h1, d', fun i f hi => ?_⟩
  unfold flat1 at hf
  simp only [Bool.and_eq_true, decide_eq_true_eq, List.all_eq_true, List.mem_range] at hf
  obtain ⟨g1, g2⟩ := hf
  have hlt : i < n := by have := (Array.getElem?_eq_some_iff.1 hi).1; simp at g1; omega
  have g3 := g2 i hlt
  have hi' : fs.toList[i]? = some f := by rw [Array.getElem?_toList]; exact hi
  rw [hi'] at g3
  simp only [Bool.and_eq_true, decide_eq_true_eq] at g3
  have h3 := h2 i f hi
  rw [g3.1, g3.2] at h3
  have hx : ls[i]? = some (ls[i]'(by omega)) := List.getElem?_eq_getElem (by omega)
  refine ⟨_, hx, ?_⟩
  have : (ls.drop i).take 1 = [ls[i]'(by omega)] := by
    rw [List.drop_eq_getElem_cons (by omega)]; rfl
  rw [this] at h3
  exact h3
/-- One lifted value says no less than another. -/
def Im (a b : LV) : Prop := ∀ R v, Ro R a v → Ro R b v
theorem Im.refl (a : LV) : Im a a := fun _ _ h => h
theorem Im.rsl {z n : Nat} {f g : Nat → List LV} (h : ∀ i, i < n → f i = g i) : Im (.rsl z n f) (.rsl z n g) := fun _ _ hr => rsl_congr h hr
theorem Im.agg {xs bs : List LV} (hl : xs.length = bs.length) (h : ∀ (i : Nat) (b : LV), bs[i]? = some b → ∃ a, xs[i]? = some a ∧ Im a b) : Im (.agg xs) (.agg bs) := by
  intro R v hr
  cases hr with
  | agg _ vs hs hc hp =>
    refine .agg _ _ (by omega) (fun i b hb => ?_) hp
    obtain ⟨a, ha, him⟩ := h i b hb
    exact him _ _ (hc i a ha)
def ImL : List LV → List LV → Prop
  | [], [] => True
  | a :: xs, b :: bs => Im a b ∧ ImL xs bs
  | _, _ => False
theorem ImL_get : ∀ {xs bs : List LV}, ImL xs bs → xs.length = bs.length ∧ ∀ (i : Nat) (b : LV), bs[i]? = some b → ∃ a, xs[i]? = some a ∧ Im a b
  | [], [], _ => ⟨rfl, fun i b h => by simp at h⟩
  | a :: xs, b :: bs, h => by
    obtain ⟨h1, h2⟩ := ImL_get h.2
    refine ⟨by simp [h1], fun i c hc => ?_⟩
    cases i with
    | zero => simp at hc; subst hc; exact ⟨a, rfl, h.1⟩
    | succ i => obtain ⟨x, hx, hx2⟩ := h2 i c (by simpa using hc); exact ⟨x, by simpa using hx, hx2⟩
  | [], _ :: _, h => h.elim
  | _ :: _, [], h => h.elim
theorem Im.aggL {xs bs : List LV} (h : ImL xs bs) : Im (.agg xs) (.agg bs) := Im.agg (ImL_get h).1 (ImL_get h).2
theorem ev_im {P : Program} {f : FuncId} {xs bs : List LV} {r : LV} (h : ImL xs bs) (he : Ev P f bs r) : Ev P f xs r := by
  intro R w vs hR hs ha
  obtain ⟨h1, h2⟩ := ImL_get h
  refine he R w vs hR (by omega) (fun i b hb => ?_)
  obtain ⟨a, ha', him⟩ := h2 i b hb
  exact him _ _ (ha i a ha')

theorem arg_cell {t : TypeId} (hs : structT Try.prog t = false) {lv : LV} (h : fitA Try.prog t lv) : fitT Try.prog 20 t [lv] := by
  obtain ⟨ls, h1, ⟨h2, _⟩ | ⟨_, rfl⟩⟩ := h
  · rw [hs] at h2; simp at h2
  · exact h1
theorem arg_agg {t : TypeId} (hs : structT Try.prog t = true) {lv : LV} (h : fitA Try.prog t lv) : ∃ ls, lv = .agg ls ∧ fitT Try.prog 20 t ls := by
  obtain ⟨ls, h1, ⟨_, rfl⟩ | ⟨h2, _⟩⟩ := h
  · exact ⟨ls, rfl, h1⟩
  · rw [hs] at h2; simp at h2
theorem sl_i64 {d : Nat} {t e : TypeId} (ht : Try.prog.underlying t = some (.slice e)) (he : Try.prog.underlying e = some (.int .i64)) (hc : Try.prog.cellsOf e = 1) {lv : LV} (h : fitT Try.prog d t [lv]) : ∃ l : List Int, Im lv (intsV l) ∧ (∀ x, x ∈ l → In64 x) ∧ l.length ≤ maxLen := by
  obtain ⟨d', n, f, h1, h2, h3⟩ := fit_sl ht h
  have hall : ∀ i, ∃ x : Int, i < n → f i = [.sc (.int .i64 x)] ∧ In64 x := by
    intro i
    by_cases hi : i < n
    · obtain ⟨x, h4, h5⟩ := fit_i64 he (h3 i hi)
      exact ⟨x, fun _ => ⟨h4, h5⟩⟩
    · exact ⟨0, fun h => absurd h hi⟩
  obtain ⟨g, hg⟩ := Classical.axiomOfChoice hall
  simp only [List.cons.injEq, and_true] at h1
  subst h1
  refine ⟨listOf n g, ?_, fun x hx => ?_, by rw [listOf_len]; exact h2⟩
  · unfold intsV
    rw [hc, listOf_len]
    refine Im.rsl fun i hi => ?_
    rw [(hg i hi).1, intsF_eq, listOf_get n g 0 hi]
  · obtain ⟨i, hi, rfl⟩ := listOf_mem hx
    exact (hg i hi).2
theorem sl_bool {d : Nat} {t e : TypeId} (ht : Try.prog.underlying t = some (.slice e)) (he : Try.prog.underlying e = some .bool) (hc : Try.prog.cellsOf e = 1) {lv : LV} (h : fitT Try.prog d t [lv]) : ∃ l : List Bool, Im lv (boolsV l) ∧ l.length ≤ maxLen := by
  obtain ⟨d', n, f, h1, h2, h3⟩ := fit_sl ht h
  have hall : ∀ i, ∃ x : Bool, i < n → f i = [.sc (.bool x)] := by
    intro i
    by_cases hi : i < n
    · obtain ⟨x, h4⟩ := fit_bool he (h3 i hi)
      exact ⟨x, fun _ => h4⟩
    · exact ⟨false, fun h => absurd h hi⟩
  obtain ⟨g, hg⟩ := Classical.axiomOfChoice hall
  simp only [List.cons.injEq, and_true] at h1
  subst h1
  refine ⟨listOf n g, ?_, by rw [listOf_len]; exact h2⟩
  unfold boolsV
  rw [hc, listOf_len]
  refine Im.rsl fun i hi => ?_
  rw [hg i hi, boolsF_eq, listOf_get n g false hi]
theorem el_node {d : Nat} {ls : List LV} (h : fitT Try.prog d 74 ls) : ∃ n : Nd, ls = ndL n ∧ n.name.size ≤ maxLen ∧ In64 n.ports := by
  obtain ⟨h1, d', h2⟩ := fit_flat Try.underlying74 (n := 3) (by kernel_rfl) (by kernel_rfl) h
  obtain ⟨a, b, c, rfl⟩ : ∃ a b c, ls = [a, b, c] := by
    match ls, h1 with
    | [a, b, c], _ => exact ⟨a, b, c, rfl⟩
  obtain ⟨x, hx, h3⟩ := h2 0 _ rfl
  obtain ⟨y, hy, h4⟩ := h2 1 _ rfl
  obtain ⟨z, hz, h5⟩ := h2 2 _ rfl
  simp at hx hy hz
  subst hx; subst hy; subst hz
  obtain ⟨s, h6, h7⟩ := fit_str Try.underlying9 h3
  obtain ⟨q, h8⟩ := fit_bool Try.underlying4 h4
  obtain ⟨m, h9, h10⟩ := fit_i64 Try.underlying3 h5
  simp only [List.cons.injEq, and_true] at h6 h8 h9
  subst h6; subst h8; subst h9
  exact ⟨⟨s, q, m⟩, rfl, h7, h10⟩
theorem el_cable {d : Nat} {ls : List LV} (h : fitT Try.prog d 72 ls) : ∃ c : Cb, ls = cbL c ∧ In64 c.a ∧ In64 c.ap ∧ In64 c.b ∧ In64 c.bp ∧ In64 c.dl ∧ In64 c.cp := by
  obtain ⟨h1, d', h2⟩ := fit_flat Try.underlying72 (n := 6) (by kernel_rfl) (by kernel_rfl) h
  obtain ⟨a, b, c, a', b', c', rfl⟩ : ∃ a b c a' b' c', ls = [a, b, c, a', b', c'] := by
    match ls, h1 with
    | [a, b, c, a', b', c'], _ => exact ⟨a, b, c, a', b', c', rfl⟩
  obtain ⟨x, hx, h3⟩ := h2 0 _ rfl
  obtain ⟨y, hy, h4⟩ := h2 1 _ rfl
  obtain ⟨z, hz, h5⟩ := h2 2 _ rfl
  obtain ⟨x', hx', h3'⟩ := h2 3 _ rfl
  obtain ⟨y', hy', h4'⟩ := h2 4 _ rfl
  obtain ⟨z', hz', h5'⟩ := h2 5 _ rfl
  simp at hx hy hz hx' hy' hz'
  subst hx; subst hy; subst hz; subst hx'; subst hy'; subst hz'
  obtain ⟨i1, k1, j1⟩ := fit_i64 Try.underlying3 h3
  obtain ⟨i2, k2, j2⟩ := fit_i64 Try.underlying3 h4
  obtain ⟨i3, k3, j3⟩ := fit_i64 Try.underlying3 h5
  obtain ⟨i4, k4, j4⟩ := fit_i64 Try.underlying3 h3'
  obtain ⟨i5, k5, j5⟩ := fit_i64 Try.underlying3 h4'
  obtain ⟨i6, k6, j6⟩ := fit_i64 Try.underlying3 h5'
  simp only [List.cons.injEq, and_true] at k1 k2 k3 k4 k5 k6
  subst k1; subst k2; subst k3; subst k4; subst k5; subst k6
  exact ⟨⟨i1, i2, i3, i4, i5, i6⟩, rfl, j1, j2, j3, j4, j5, j6⟩
theorem arg_plan {lv : LV} (h : fitA Try.prog 25 lv) : ∃ p, Im lv (plV p) ∧ PlOk p := by
  obtain ⟨ls, rfl, h0⟩ := arg_agg (by kernel_rfl) h
  obtain ⟨h1, d', h2⟩ := fit_flat Try.underlying25 (n := 2) (by kernel_rfl) (by kernel_rfl) h0
  obtain ⟨a, b, rfl⟩ : ∃ a b, ls = [a, b] := by
    match ls, h1 with
    | [a, b], _ => exact ⟨a, b, rfl⟩
  obtain ⟨x, hx, h3⟩ := h2 0 _ rfl
  obtain ⟨y, hy, h4⟩ := h2 1 _ rfl
  simp at hx hy
  subst hx; subst hy
  obtain ⟨d1, n1, f1, e1, l1, g1⟩ := fit_sl Try.underlying22 h3
  obtain ⟨d2, n2, f2, e2, l2, g2⟩ := fit_sl Try.underlying23 h4
  have hn : ∀ i, ∃ x : Nd, i < n1 → f1 i = ndL x ∧ x.name.size ≤ maxLen ∧ In64 x.ports := by
    intro i
    by_cases hi : i < n1
    · obtain ⟨x, h⟩ := el_node (g1 i hi); exact ⟨x, fun _ => h⟩
    · exact ⟨default, fun h => absurd h hi⟩
  obtain ⟨ns, hns⟩ := Classical.axiomOfChoice hn
  have hc : ∀ i, ∃ x : Cb, i < n2 → f2 i = cbL x ∧ In64 x.a ∧ In64 x.ap ∧ In64 x.b ∧ In64 x.bp ∧ In64 x.dl ∧ In64 x.cp := by
    intro i
    by_cases hi : i < n2
    · obtain ⟨x, h⟩ := el_cable (g2 i hi); exact ⟨x, fun _ => h⟩
    · exact ⟨default, fun h => absurd h hi⟩
  obtain ⟨cs, hcs⟩ := Classical.axiomOfChoice hc
  simp only [List.cons.injEq, and_true] at e1 e2
  subst e1; subst e2
  rw [show Try.prog.cellsOf 74 = 3 by kernel_rfl, show Try.prog.cellsOf 72 = 6 by kernel_rfl]
  refine ⟨⟨listOf n1 ns, listOf n2 cs⟩, ?_, ⟨fun x hx => ?_, fun x hx => ?_⟩⟩
  · unfold plV
    refine Im.aggL ⟨?_, ?_, trivial⟩
    · show Im (.rsl 3 n1 f1) (.rsl 3 (listOf n1 ns).length (ndsF (listOf n1 ns)))
      rw [listOf_len]
      refine Im.rsl fun i hi => ?_
      rw [(hns i hi).1, ndsF, listOf_get n1 ns default hi]
    · show Im (.rsl 6 n2 f2) (.rsl 6 (listOf n2 cs).length (cbsF (listOf n2 cs)))
      rw [listOf_len]
      refine Im.rsl fun i hi => ?_
      rw [(hcs i hi).1, cbsF, listOf_get n2 cs default hi]
  · obtain ⟨i, hi, rfl⟩ := listOf_mem hx
    exact (hns i hi).2
  · obtain ⟨i, hi, rfl⟩ := listOf_mem hx
    exact (hcs i hi).2
theorem arg_ints {lv : LV} (h : fitA Try.prog 26 lv) : ∃ l, Im lv (intsV l) ∧ (∀ x, x ∈ l → In64 x) ∧ l.length ≤ maxLen := sl_i64 Try.underlying26 Try.underlying3 (by kernel_rfl) (arg_cell (by kernel_rfl) h)
theorem arg_bools {lv : LV} (h : fitA Try.prog 41 lv) : ∃ l, Im lv (boolsV l) ∧ l.length ≤ maxLen := sl_bool Try.underlying41 Try.underlying4 (by kernel_rfl) (arg_cell (by kernel_rfl) h)
theorem arg_int {lv : LV} (h : fitA Try.prog 3 lv) : ∃ n, lv = .sc (.int .i64 n) ∧ In64 n := by
  obtain ⟨n, h1, h2⟩ := fit_i64 Try.underlying3 (arg_cell (by kernel_rfl) h)
  simp only [List.cons.injEq, and_true] at h1
  exact ⟨n, h1, h2⟩
theorem arg_u8 {lv : LV} (h : fitA Try.prog 5 lv) : ∃ n, lv = .sc (.int .u8 n) ∧ 0 ≤ n ∧ n ≤ 255 := by
  have h := arg_cell (by kernel_rfl) h
  unfold fitT at h
  rw [Try.underlying5] at h
  obtain ⟨n, h1, h2⟩ := h
  simp only [List.cons.injEq, and_true] at h1
  have e1 : IntKind.u8.min = 0 := by decide
  have e2 : IntKind.u8.max = 255 := by decide
  simp [Lit.wf, e1, e2] at h2
  exact ⟨n, h1, h2⟩
theorem all1 {t : TypeId} {ts : List TypeId} {l : List LV} (h : fitAll Try.prog (t :: ts) l) : ∃ a r, l = a :: r ∧ fitA Try.prog t a ∧ fitAll Try.prog ts r := by
  cases l with
  | nil => exact h.elim
  | cons a r => exact ⟨a, r, rfl, h.1, h.2⟩
theorem all0 {l : List LV} (h : fitAll Try.prog [] l) : l = [] := by
  cases l with
  | nil => rfl
  | cons a r => exact h.elim
theorem Try.own' : ownKnob Try.prog.godebug = none := by kernel_rfl
theorem Try.laidOut' : laidOutB Try.prog = true := by kernel_rfl
end Go.Proofs.Ytibpkgopbecfoaa
