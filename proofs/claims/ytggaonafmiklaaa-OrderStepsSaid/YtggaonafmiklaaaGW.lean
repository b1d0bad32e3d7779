/- The levels of the ends of a cable differ by at most one: the program's own steps. Conditions: none. -/
import Derived.Test.YtggaonafmiklaaaGV
namespace Go.Proofs.Ytggaonafmiklaaa
set_option linter.unusedSimpArgs false
set_option linter.unusedVariables false
open Go.RowKit
set_option maxRecDepth 20000

theorem up_ends {p : Pl} {l : List Int} (hO : ordB p l = true) {j : Nat} (hj : j < p.cs.length) :
    upE p l j (p.cs.getD j default).a = (bif decide (lvl l (p.cs.getD j default).a < 0) || decide (lvl l (p.cs.getD j default).b < 0) then (false, 12) else (aboveB l (p.cs.getD j default).b (p.cs.getD j default).a, 0)) ∧
    upE p l j (p.cs.getD j default).b = (bif decide (lvl l (p.cs.getD j default).a < 0) || decide (lvl l (p.cs.getD j default).b < 0) then (false, 12) else (aboveB l (p.cs.getD j default).a (p.cs.getD j default).b, 0)) := by
  have h1 : decide ((j : Int) < 0) = false := by simp
  have h2 : decide ((p.cs.length : Int) ≤ j) = false := by simp; omega
  unfold upE
  rw [hO, h1, h2]
  simp only [Int.toNat_natCast, Bool.not_true, cond_false, condT, condF, decide_true, Bool.not_true, Bool.false_and, Bool.and_false]
  simp only [show ∀ a b : Int, a + b - a = b from fun a b => by omega, show ∀ a b : Int, a + b - b = a from fun a b => by omega]
  exact ⟨rfl, rfl⟩
theorem ev_lawSteps (p : Pl) (hp : PlOk p) (up : List Bool) (r : Int) (hr : In64 r) : Ev Try.prog 6 [plV p, boolsV up, .sc (.int .i64 r)] (.sc (.bool true)) := by
  have h1 := ev_awake
  have h2 := ev_few p
  have h3 := ev_of p hp up r
  have h4 := fun l i x => ev_upward p hp l i x
  unfold plV boolsV intsV at *
  refine ev_fn Try.func6 comp6 (show 3 ≤ Try.f6.ntmps by decide) ?_; unfold cf6 rf6; simp only [↓EVP0, EVQ0, EVQ1, EVQ2, EVQ3, EVQ4, EVA, EVK, EVF, ↓reduceIte, Nat.reduceEqDiff, Nat.reduceAdd, Nat.reduceSub, Nat.reduceMul, Nat.reduceLT, Nat.reduceLeDiff, reduceCtorEq, Int.reduceToNat, Int.reduceLT, Int.reduceLE, Int.reduceAdd, Int.reduceSub, Int.reduceMul, Int.reduceNeg, Int.reduceEq, Nat.reduceMod, forall_eq_or_imp, forall_eq, forall_const, cond_true, cond_false, decide_true, decide_false, true_imp_iff, implies_true, Int.cast_ofNat_Int, forall_eq']
  refine callK_ro (h1) ?_ ?_
  · simp only [↓EVP0, EVQ0, EVQ1, EVQ2, EVQ3, EVQ4, EVA, EVK, EVF, ↓reduceIte, Nat.reduceEqDiff, Nat.reduceAdd, Nat.reduceSub, Nat.reduceMul, Nat.reduceLT, Nat.reduceLeDiff, reduceCtorEq, Int.reduceToNat, Int.reduceLT, Int.reduceLE, Int.reduceAdd, Int.reduceSub, Int.reduceMul, Int.reduceNeg, Int.reduceEq, Nat.reduceMod, forall_eq_or_imp, forall_eq, forall_const, cond_true, cond_false, decide_true, decide_false, true_imp_iff, implies_true, Int.cast_ofNat_Int, forall_eq']
  simp only [↓EVP0, EVQ0, EVQ1, EVQ2, EVQ3, EVQ4, EVA, EVK, EVF, ↓reduceIte, Nat.reduceEqDiff, Nat.reduceAdd, Nat.reduceSub, Nat.reduceMul, Nat.reduceLT, Nat.reduceLeDiff, reduceCtorEq, Int.reduceToNat, Int.reduceLT, Int.reduceLE, Int.reduceAdd, Int.reduceSub, Int.reduceMul, Int.reduceNeg, Int.reduceEq, Nat.reduceMod, forall_eq_or_imp, forall_eq, forall_const, cond_true, cond_false, decide_true, decide_false, true_imp_iff, implies_true, Int.cast_ofNat_Int, forall_eq']
  (refine lops_ge_imp ?_; simp only [↓EVP0, EVQ0, EVQ1, EVQ2, EVQ3, EVQ4, EVA, EVK, EVF, ↓reduceIte, Nat.reduceEqDiff, Nat.reduceAdd, Nat.reduceSub, Nat.reduceMul, Nat.reduceLT, Nat.reduceLeDiff, reduceCtorEq, Int.reduceToNat, Int.reduceLT, Int.reduceLE, Int.reduceAdd, Int.reduceSub, Int.reduceMul, Int.reduceNeg, Int.reduceEq, Nat.reduceMod, forall_eq_or_imp, forall_eq, forall_const, cond_true, cond_false, decide_true, decide_false, true_imp_iff, implies_true, Int.cast_ofNat_Int, forall_eq'])
  refine gCallK_ro _ (fun _ => h2) (fun _ => ?_) ?_
  · simp only [↓EVP0, EVQ0, EVQ1, EVQ2, EVQ3, EVQ4, EVA, EVK, EVF, ↓reduceIte, Nat.reduceEqDiff, Nat.reduceAdd, Nat.reduceSub, Nat.reduceMul, Nat.reduceLT, Nat.reduceLeDiff, reduceCtorEq, Int.reduceToNat, Int.reduceLT, Int.reduceLE, Int.reduceAdd, Int.reduceSub, Int.reduceMul, Int.reduceNeg, Int.reduceEq, Nat.reduceMod, forall_eq_or_imp, forall_eq, forall_const, cond_true, cond_false, decide_true, decide_false, true_imp_iff, implies_true, Int.cast_ofNat_Int, forall_eq']
  simp only [↓EVP0, EVQ0, EVQ1, EVQ2, EVQ3, EVQ4, EVA, EVK, EVF, ↓reduceIte, Nat.reduceEqDiff, Nat.reduceAdd, Nat.reduceSub, Nat.reduceMul, Nat.reduceLT, Nat.reduceLeDiff, reduceCtorEq, Int.reduceToNat, Int.reduceLT, Int.reduceLE, Int.reduceAdd, Int.reduceSub, Int.reduceMul, Int.reduceNeg, Int.reduceEq, Nat.reduceMod, forall_eq_or_imp, forall_eq, forall_const, cond_true, cond_false, decide_true, decide_false, true_imp_iff, implies_true, Int.cast_ofNat_Int, forall_eq']
  refine ⟨fun _ => ?_, fun hg => ?_⟩
  · refine callK_ro (h1) ?_ ?_
    · simp only [↓EVP0, EVQ0, EVQ1, EVQ2, EVQ3, EVQ4, EVA, EVK, EVF, ↓reduceIte, Nat.reduceEqDiff, Nat.reduceAdd, Nat.reduceSub, Nat.reduceMul, Nat.reduceLT, Nat.reduceLeDiff, reduceCtorEq, Int.reduceToNat, Int.reduceLT, Int.reduceLE, Int.reduceAdd, Int.reduceSub, Int.reduceMul, Int.reduceNeg, Int.reduceEq, Nat.reduceMod, forall_eq_or_imp, forall_eq, forall_const, cond_true, cond_false, decide_true, decide_false, true_imp_iff, implies_true, Int.cast_ofNat_Int, forall_eq']
    simp only [↓EVP0, EVQ0, EVQ1, EVQ2, EVQ3, EVQ4, EVA, EVK, EVF, ↓reduceIte, Nat.reduceEqDiff, Nat.reduceAdd, Nat.reduceSub, Nat.reduceMul, Nat.reduceLT, Nat.reduceLeDiff, reduceCtorEq, Int.reduceToNat, Int.reduceLT, Int.reduceLE, Int.reduceAdd, Int.reduceSub, Int.reduceMul, Int.reduceNeg, Int.reduceEq, Nat.reduceMod, forall_eq_or_imp, forall_eq, forall_const, cond_true, cond_false, decide_true, decide_false, true_imp_iff, implies_true, Int.cast_ofNat_Int, forall_eq']
  refine callK_ro (h3) ?_ ?_
  · simp only [↓EVP0, EVQ0, EVQ1, EVQ2, EVQ3, EVQ4, EVA, EVK, EVF, ↓reduceIte, Nat.reduceEqDiff, Nat.reduceAdd, Nat.reduceSub, Nat.reduceMul, Nat.reduceLT, Nat.reduceLeDiff, reduceCtorEq, Int.reduceToNat, Int.reduceLT, Int.reduceLE, Int.reduceAdd, Int.reduceSub, Int.reduceMul, Int.reduceNeg, Int.reduceEq, Nat.reduceMod, forall_eq_or_imp, forall_eq, forall_const, cond_true, cond_false, decide_true, decide_false, true_imp_iff, implies_true, Int.cast_ofNat_Int, forall_eq']
  simp only [↓EVP0, EVQ0, EVQ1, EVQ2, EVQ3, EVQ4, EVA, EVK, EVF, ↓reduceIte, Nat.reduceEqDiff, Nat.reduceAdd, Nat.reduceSub, Nat.reduceMul, Nat.reduceLT, Nat.reduceLeDiff, reduceCtorEq, Int.reduceToNat, Int.reduceLT, Int.reduceLE, Int.reduceAdd, Int.reduceSub, Int.reduceMul, Int.reduceNeg, Int.reduceEq, Nat.reduceMod, forall_eq_or_imp, forall_eq, forall_const, cond_true, cond_false, decide_true, decide_false, true_imp_iff, implies_true, Int.cast_ofNat_Int, forall_eq']
  refine ⟨fun _ => trivial, fun he => ?_⟩
  obtain ⟨hv, hup, hin, hof⟩ := of_ok (p := p) (up := up) (r := r) (by simpa using he)
  rw [hof]
  simp only [↓EVP0, EVQ0, EVQ1, EVQ2, EVQ3, EVQ4, EVA, EVK, EVF, ↓reduceIte, Nat.reduceEqDiff, Nat.reduceAdd, Nat.reduceSub, Nat.reduceMul, Nat.reduceLT, Nat.reduceLeDiff, reduceCtorEq, Int.reduceToNat, Int.reduceLT, Int.reduceLE, Int.reduceAdd, Int.reduceSub, Int.reduceMul, Int.reduceNeg, Int.reduceEq, Nat.reduceMod, forall_eq_or_imp, forall_eq, forall_const, cond_true, cond_false, decide_true, decide_false, true_imp_iff, implies_true, Int.cast_ofNat_Int, forall_eq']
  intro _
  have hO := ord_dist (up := up) hv hin
  have hends := fun j hj => up_ends (p := p) (l := distL p.ns.length (upU p.cs up) r) hO (j := j) hj
  have hdl : (distL p.ns.length (upU p.cs up) r).length = p.ns.length := distL_length
  have hris := fun i => rises_dist (p := p) (up := up) hv hin i
  have hV := valid_of hv
  have hU := upU_in (n := p.ns.length) (up := up) hV.cab
  have hnear : ∀ j, j < p.cs.length → up.getD j false = true → (0 ≤ lvl (distL p.ns.length (upU p.cs up) r) (p.cs.getD j default).a → 0 ≤ lvl (distL p.ns.length (upU p.cs up) r) (p.cs.getD j default).b ∧ lvl (distL p.ns.length (upU p.cs up) r) (p.cs.getD j default).b ≤ lvl (distL p.ns.length (upU p.cs up) r) (p.cs.getD j default).a + 1) ∧
      (0 ≤ lvl (distL p.ns.length (upU p.cs up) r) (p.cs.getD j default).b → 0 ≤ lvl (distL p.ns.length (upU p.cs up) r) (p.cs.getD j default).a ∧ lvl (distL p.ns.length (upU p.cs up) r) (p.cs.getD j default).a ≤ lvl (distL p.ns.length (upU p.cs up) r) (p.cs.getD j default).b + 1) := by
    intro j hj hu
    have hcm : (p.cs.getD j default) ∈ p.cs := by rw [List.getD_eq_getElem?_getD, List.getElem?_eq_getElem hj]; exact List.getElem_mem _
    obtain ⟨ha, hb⟩ := hV.cab _ hcm
    have hn : nbr (upU p.cs up) (p.cs.getD j default).a (p.cs.getD j default).b := ⟨_, upP_mem.2 ⟨j, hj, hu, rfl⟩, .inl ⟨rfl, rfl⟩⟩
    rw [lvl_dist ha, lvl_dist hb]
    exact ⟨distX_near hU hin hn, distX_near hU hin (nbr_symm hn)⟩
  have hrng := (ord_of hO).rng
  have hcs : ∀ j, j < p.cs.length → p.cs.getD j default ∈ p.cs := fun j hj => by rw [List.getD_eq_getElem?_getD, List.getElem?_eq_getElem hj]; exact List.getElem_mem _
  generalize distL p.ns.length (upU p.cs up) r = d at *
  have n16 := hV.n16
  refine ⟨by unfold mksC; omega, fun _ => ?_⟩
  refine lwp_for (α := Unit) p.cs.length (fun j _ => True) (fun j _ => [(1, .rsl 1 up.length (boolsF up)), (2, .sc (.int .i64 r)), (3, .ptr 0 0 0 0 0), (7, .ptr 1 0 0 0 0), (9, .sl 2 0 1 0 p.ns.length), (47, .rsl 6 p.cs.length (cbsF p.cs)), (48, .sc (.int .i64 p.cs.length)), (49, .sc (.int .i64 j))])
    (fun j _ => [(0, .box [.rsl 3 p.ns.length (ndsF p.ns), .rsl 6 p.cs.length (cbsF p.cs)]), (0, .box [.rsl 1 d.length (intsF d)]), (0, .bools (risF p d up j))]) () trivial ?_ (fun _ _ => Nat.zero_le _) ?_
  · simp only [↓EVP0, EVQ0, EVQ1, EVQ2, EVQ3, EVQ4, EVA, EVK, EVF, ↓reduceIte, Nat.reduceEqDiff, Nat.reduceAdd, Nat.reduceSub, Nat.reduceMul, Nat.reduceLT, Nat.reduceLeDiff, reduceCtorEq, Int.reduceToNat, Int.reduceLT, Int.reduceLE, Int.reduceAdd, Int.reduceSub, Int.reduceMul, Int.reduceNeg, Int.reduceEq, Nat.reduceMod, forall_eq_or_imp, forall_eq, forall_const, cond_true, cond_false, decide_true, decide_false, true_imp_iff, implies_true, Int.cast_ofNat_Int, forall_eq']
    rfl
  intro j _ hj _
  have hml := risF_len p d up j
  have hstep : risF p d up (j + 1) = risS d (p.cs.getD j default) (up.getD j false) (risF p d up j) := rfl
  have hfin : j = p.cs.length → risF p d up j = risF p d up p.cs.length := fun e => by rw [e]
  rw [hstep]
  generalize risF p d up j = m at hml hfin ⊢
  unfold lb6_1
  simp only [↓EVP0, EVQ0, EVQ1, EVQ2, EVQ3, EVQ4, EVA, EVK, EVF, ↓reduceIte, Nat.reduceEqDiff, Nat.reduceAdd, Nat.reduceSub, Nat.reduceMul, Nat.reduceLT, Nat.reduceLeDiff, reduceCtorEq, Int.reduceToNat, Int.reduceLT, Int.reduceLE, Int.reduceAdd, Int.reduceSub, Int.reduceMul, Int.reduceNeg, Int.reduceEq, Nat.reduceMod, forall_eq_or_imp, forall_eq, forall_const, cond_true, cond_false, decide_true, decide_false, true_imp_iff, implies_true, Int.cast_ofNat_Int, forall_eq']
  refine ⟨fun g => ?_, fun g => ?_⟩
  · have hj2 : j < p.cs.length := by simpa using g
    obtain ⟨e1, e2⟩ := hends j hj2
    refine ⟨⟨by omega, by omega⟩, ?_⟩
    refine callK_ro (h4 _ _ _) ?_ ?_
    · simp only [↓EVP0, EVQ0, EVQ1, EVQ2, EVQ3, EVQ4, EVA, EVK, EVF, ↓reduceIte, Nat.reduceEqDiff, Nat.reduceAdd, Nat.reduceSub, Nat.reduceMul, Nat.reduceLT, Nat.reduceLeDiff, reduceCtorEq, Int.reduceToNat, Int.reduceLT, Int.reduceLE, Int.reduceAdd, Int.reduceSub, Int.reduceMul, Int.reduceNeg, Int.reduceEq, Nat.reduceMod, forall_eq_or_imp, forall_eq, forall_const, cond_true, cond_false, decide_true, decide_false, true_imp_iff, implies_true, Int.cast_ofNat_Int, forall_eq']
    simp only [↓EVP0, EVQ0, EVQ1, EVQ2, EVQ3, EVQ4, EVA, EVK, EVF, ↓reduceIte, Nat.reduceEqDiff, Nat.reduceAdd, Nat.reduceSub, Nat.reduceMul, Nat.reduceLT, Nat.reduceLeDiff, reduceCtorEq, Int.reduceToNat, Int.reduceLT, Int.reduceLE, Int.reduceAdd, Int.reduceSub, Int.reduceMul, Int.reduceNeg, Int.reduceEq, Nat.reduceMod, forall_eq_or_imp, forall_eq, forall_const, cond_true, cond_false, decide_true, decide_false, true_imp_iff, implies_true, Int.cast_ofNat_Int, forall_eq']
    refine callK_ro (h4 _ _ _) ?_ ?_
    · simp only [↓EVP0, EVQ0, EVQ1, EVQ2, EVQ3, EVQ4, EVA, EVK, EVF, ↓reduceIte, Nat.reduceEqDiff, Nat.reduceAdd, Nat.reduceSub, Nat.reduceMul, Nat.reduceLT, Nat.reduceLeDiff, reduceCtorEq, Int.reduceToNat, Int.reduceLT, Int.reduceLE, Int.reduceAdd, Int.reduceSub, Int.reduceMul, Int.reduceNeg, Int.reduceEq, Nat.reduceMod, forall_eq_or_imp, forall_eq, forall_const, cond_true, cond_false, decide_true, decide_false, true_imp_iff, implies_true, Int.cast_ofNat_Int, forall_eq']
    simp only [↓EVP0, EVQ0, EVQ1, EVQ2, EVQ3, EVQ4, EVA, EVK, EVF, ↓reduceIte, Nat.reduceEqDiff, Nat.reduceAdd, Nat.reduceSub, Nat.reduceMul, Nat.reduceLT, Nat.reduceLeDiff, reduceCtorEq, Int.reduceToNat, Int.reduceLT, Int.reduceLE, Int.reduceAdd, Int.reduceSub, Int.reduceMul, Int.reduceNeg, Int.reduceEq, Nat.reduceMod, forall_eq_or_imp, forall_eq, forall_const, cond_true, cond_false, decide_true, decide_false, true_imp_iff, implies_true, Int.cast_ofNat_Int, forall_eq']
    rw [e1, e2]
    have hnj := hnear j hj2
    obtain ⟨ha, hb⟩ := hV.cab _ (hcs j hj2)
    have rga := hrng _ ha
    have rgb := hrng _ hb
    have hself := hV.self _ (hcs j hj2)
    generalize p.cs.getD j default = c at *
    have AA := aboveB_iff d c.a c.b
    have BB := aboveB_iff d c.b c.a
    have hja : (0 : Int) ≤ j ∧ (j : Int) < up.length := by omega
    have hj64 : In64 ((j : Int) + 1) := by have := hV.c32; unfold In64; omega
    unfold inN at ha hb
    simp only [show d.getD c.a.toNat 0 = lvl d c.a from rfl, show d.getD c.b.toNat 0 = lvl d c.b from rfl]
    unfold risS
    generalize lvl d c.a = la at *
    generalize lvl d c.b = lb at *
    generalize up.getD j false = on at *
    refine ⟨by omega, by omega, hja, fun _ => by unfold In64; omega, fun _ => by unfold In64; omega, fun h => ?_, fun h => ⟨fun h2 => ?_, fun h2 => ?_⟩⟩
    · cases on
      · simp at h
      · have := hnj rfl
        rw [cond_true] at h
        by_cases h1 : la < 0 <;> by_cases h2 : lb < 0 <;> simp [h1, h2] at h <;> omega
    · have e : (decide (la < 0) || decide (lb < 0)) = true := by rw [condT] at h2; exact h2
      rw [e]
      refine ⟨fun h3 => by simp at h3, fun _ => ⟨hj64, hj2, (), rfl⟩⟩
    · have e : (decide (la < 0) || decide (lb < 0)) = false := by rw [condT] at h2; exact h2
      rw [e]
      simp only [cond_false]
      have hlab : 0 ≤ la ∧ 0 ≤ lb := by simp at e; exact e
      have hex : aboveB d c.a c.b = !aboveB d c.b c.a := by
        cases h4 : aboveB d c.b c.a
        · rw [h4] at BB
          simp only [Bool.false_eq_true, false_iff] at BB
          exact AA.2 (by omega)
        · have := BB.1 h4
          rw [Bool.not_true, Bool.eq_false_iff]
          intro h5
          have := AA.1 h5
          omega
      rw [hex]
      refine ⟨fun h3 => ?_, fun _ => ⟨hja, fun h3 => ⟨by omega, by omega, hja, fun h4 => ?_, fun h4 => ⟨hj64, hj2, (), ?_⟩⟩, fun h3 => ⟨hja, fun h4 => ⟨by omega, by omega, hj64, hj2, (), ?_⟩, fun h4 => ⟨hj64, hj2, (), ?_⟩⟩⟩⟩
      · cases h4 : aboveB d c.b c.a <;> rw [h4] at h3 <;> simp at h3
      · cases on <;> cases h5 : aboveB d c.b c.a <;> rw [h5] at h3 h4 <;> simp at h3 h4
      · cases on <;> cases h5 : aboveB d c.b c.a <;> rw [h5] at h3 <;> simp at h3 ⊢
      · cases on <;> cases h5 : aboveB d c.b c.a <;> rw [h5] at h3 h4 <;> simp at h3 h4 ⊢
      · cases on <;> cases h5 : aboveB d c.b c.a <;> rw [h5] at h3 h4 <;> simp at h3 h4 ⊢
  · have hjj : j = p.cs.length := by simp at g; omega
    have hm := hfin hjj
    intro _
    refine lwp_for (α := Unit) d.length (fun i _ => True) (fun i _ => [(2, .sc (.int .i64 r)), (9, .sl 2 0 1 0 p.ns.length), (154, .rsl 1 d.length (intsF d)), (155, .sc (.int .i64 d.length)), (156, .sc (.int .i64 i))])
      (fun i _ => [(0, .box [.rsl 3 p.ns.length (ndsF p.ns), .rsl 6 p.cs.length (cbsF p.cs)]), (0, .box [.rsl 1 d.length (intsF d)]), (0, .bools m)]) () trivial ?_ (fun _ _ => Nat.zero_le _) ?_
    · simp only [↓EVP0, EVQ0, EVQ1, EVQ2, EVQ3, EVQ4, EVA, EVK, EVF, ↓reduceIte, Nat.reduceEqDiff, Nat.reduceAdd, Nat.reduceSub, Nat.reduceMul, Nat.reduceLT, Nat.reduceLeDiff, reduceCtorEq, Int.reduceToNat, Int.reduceLT, Int.reduceLE, Int.reduceAdd, Int.reduceSub, Int.reduceMul, Int.reduceNeg, Int.reduceEq, Nat.reduceMod, forall_eq_or_imp, forall_eq, forall_const, cond_true, cond_false, decide_true, decide_false, true_imp_iff, implies_true, Int.cast_ofNat_Int, forall_eq']
    intro i _ hi _
    unfold lb6_0
    simp only [↓EVP0, EVQ0, EVQ1, EVQ2, EVQ3, EVQ4, EVA, EVK, EVF, ↓reduceIte, Nat.reduceEqDiff, Nat.reduceAdd, Nat.reduceSub, Nat.reduceMul, Nat.reduceLT, Nat.reduceLeDiff, reduceCtorEq, Int.reduceToNat, Int.reduceLT, Int.reduceLE, Int.reduceAdd, Int.reduceSub, Int.reduceMul, Int.reduceNeg, Int.reduceEq, Nat.reduceMod, forall_eq_or_imp, forall_eq, forall_const, cond_true, cond_false, decide_true, decide_false, true_imp_iff, implies_true, Int.cast_ofNat_Int, forall_eq']
    refine ⟨fun g2 => ?_, fun _ => trivial⟩
    have hi2 : i < d.length := by simpa using g2
    refine ⟨⟨by omega, by omega⟩, fun _ => by omega, fun _ => by omega, fun h => ?_, fun _ => ⟨by unfold In64; omega, hi2, (), trivial⟩⟩
    cases h0 : decide (0 ≤ d.getD i 0)
    · rw [h0] at h; simp at h
    · have hri := hris i (by omega) (of_decide_eq_true h0)
      rw [h0, hm, hri] at h
      simp at h
end Go.Proofs.Ytggaonafmiklaaa
