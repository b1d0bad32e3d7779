/- Chapter 33: a net is valid exactly if the reference says so; For every net the net is valid exactly if the reference says so. Conditions: none. -/
import Derived.Test.YtdfiicpikcdokaaDoorMG
import Derived.Test.YtdfiicpikcdokaaDoorTie
import Derived.Test.YtdfiicpikcdokaaDoorCards
import Derived.SevenTiedAt
import Derived.Stop.Joined
namespace Go.Proofs.YtdfiicpikcdokaaDoor
set_option linter.unusedSimpArgs false
set_option linter.unusedVariables false
open Go.RowKit
set_option maxRecDepth 20000

theorem rtF0 (x : Rt) : rtL x = [.sc (.int .i64 x.n), .sc (.int .i64 x.d)] := rfl
theorem flF0 (x : Fl) : flL x = [.rsl 1 x.links.length (intsF x.links), .sc (.bool x.bnd), .sc (.int .i64 x.dem.n), .sc (.int .i64 x.dem.d)] := rfl
theorem ev_fits33 (r : Rt) : Ev Tryd.prog 29 [ratV r] (.sc (.bool (vldR r && decide (0 ≤ r.n)))) := by
  have h1 := ev_rvalid r
  unfold ratV at *
  refine ev_fn Tryd.func29 comp29 (show 1 ≤ Tryd.f29.ntmps by decide) ?_; unfold cf29 rf29; simp only [↓EVP0, EVQ0, EVQ1, EVQ2, EVQ3, EVQ4, EVA, EVK, EVFD, ↓reduceIte, Nat.reduceEqDiff, Nat.reduceAdd, Nat.reduceSub, Nat.reduceMul, Nat.reduceLT, Nat.reduceLeDiff, reduceCtorEq, Int.reduceToNat, Int.reduceLT, Int.reduceLE, Int.reduceAdd, Int.reduceSub, Int.reduceMul, Int.reduceNeg, Int.reduceEq, Nat.reduceMod, forall_eq_or_imp, forall_eq, forall_const, cond_true, cond_false, decide_true, decide_false, true_imp_iff, implies_true, Int.cast_ofNat_Int, forall_eq']
  refine callK_ro (h1) ?_ ?_
  · simp only [↓EVP0, EVQ0, EVQ1, EVQ2, EVQ3, EVQ4, EVA, EVK, EVFD, ↓reduceIte, Nat.reduceEqDiff, Nat.reduceAdd, Nat.reduceSub, Nat.reduceMul, Nat.reduceLT, Nat.reduceLeDiff, reduceCtorEq, Int.reduceToNat, Int.reduceLT, Int.reduceLE, Int.reduceAdd, Int.reduceSub, Int.reduceMul, Int.reduceNeg, Int.reduceEq, Nat.reduceMod, forall_eq_or_imp, forall_eq, forall_const, cond_true, cond_false, decide_true, decide_false, true_imp_iff, implies_true, Int.cast_ofNat_Int, forall_eq']
  simp only [↓EVP0, EVQ0, EVQ1, EVQ2, EVQ3, EVQ4, EVA, EVK, EVFD, ↓reduceIte, Nat.reduceEqDiff, Nat.reduceAdd, Nat.reduceSub, Nat.reduceMul, Nat.reduceLT, Nat.reduceLeDiff, reduceCtorEq, Int.reduceToNat, Int.reduceLT, Int.reduceLE, Int.reduceAdd, Int.reduceSub, Int.reduceMul, Int.reduceNeg, Int.reduceEq, Nat.reduceMod, forall_eq_or_imp, forall_eq, forall_const, cond_true, cond_false, decide_true, decide_false, true_imp_iff, implies_true, Int.cast_ofNat_Int, forall_eq']
  cases vldR r <;> rfl
theorem apF_rt {l : List Rt} {m i : Nat} (h : i < m) : apF 2 (rtsF l) m i = rtsF l i := apF_get (z := 2) (g := rtsF l) (fun _ => rfl) h
theorem apF_fl {l : List Fl} {m i : Nat} (h : i < m) : apF 4 (flsF l) m i = flsF l i := apF_get (z := 4) (g := flsF l) (fun _ => rfl) h
theorem bs_allF {n : Nat} {b c d : Value} {m : Nat} {f : Nat → List LV} : ∀ i, i < 1 → allC n (List.take 4 (List.take 4 (List.drop (i * 4) [LV.rsl 1 m f, LV.sc b, LV.sc c, LV.sc d]))) := by
  intro i hi
  rw [show i = 0 by omega]
  exact ⟨trivial, trivial, trivial, trivial, trivial⟩
theorem ap_allR {n : Nat} {l : List Rt} {m : Nat} : ∀ i, i < m → allC n (List.take 2 (apF 2 (rtsF l) m i)) := by
  intro i hi
  rw [apF_rt hi]
  exact ⟨trivial, trivial, trivial⟩
theorem ap_allF {n : Nat} {l : List Fl} {m : Nat} : ∀ i, i < m → allC n (List.take 4 (apF 4 (flsF l) m i)) := by
  intro i hi
  rw [apF_fl hi]
  exact ⟨trivial, trivial, trivial, trivial, trivial⟩
theorem ev_plain33 (n : Nt) (h40 : n.caps.length ≤ 40) (hf40 : n.fls.length ≤ 40) : Ev Tryd.prog 12 [netV n] (netV n) := by
  unfold netV
  refine ev_fn Tryd.func12 comp12 (show 1 ≤ Tryd.f12.ntmps by decide) ?_; unfold cf12 rf12; simp only [↓EVP0, EVQ0, EVQ1, EVQ2, EVQ3, EVQ4, EVA, EVK, EVFD, ↓reduceIte, Nat.reduceEqDiff, Nat.reduceAdd, Nat.reduceSub, Nat.reduceMul, Nat.reduceLT, Nat.reduceLeDiff, reduceCtorEq, Int.reduceToNat, Int.reduceLT, Int.reduceLE, Int.reduceAdd, Int.reduceSub, Int.reduceMul, Int.reduceNeg, Int.reduceEq, Nat.reduceMod, forall_eq_or_imp, forall_eq, forall_const, cond_true, cond_false, decide_true, decide_false, true_imp_iff, implies_true, Int.cast_ofNat_Int, forall_eq']
  intro _
  refine lwp_for (α := Unit) n.caps.length (fun i _ => True) (fun i _ => [(1, .ptr 0 0 0 0 0), (2, .ptr 1 0 0 0 0), (3, .ptr 2 0 0 0 0), (9, .rsl 2 n.caps.length (rtsF n.caps)), (10, .sc (.int .i64 n.caps.length)), (11, .sc (.int .i64 i))])
    (fun i _ => if i = 0 then [(0, .box [.rsl 2 n.caps.length (rtsF n.caps), .rsl 4 n.fls.length (flsF n.fls)]), (0, .box [.nsl, .nsl]), (0, .box [.nsl, .nsl])]
      else [(0, .box [.rsl 2 n.caps.length (rtsF n.caps), .rsl 4 n.fls.length (flsF n.fls)]), (0, .box [.nsl, .nsl]), (0, .box [.sl 5 (i - 1) 2 0 i, .nsl]), (0, .box (rtsF n.caps 0)), (0, .row 2 1 (fun i => List.take 2 (List.drop (i * 2) (rtsF n.caps 0)))), (i - 1, .row 2 i (apF 2 (rtsF n.caps) i))]) () trivial ?_ (fun _ _ => Nat.zero_le _) ?_
  · simp only [if_true]
    simp only [↓EVP0, EVQ0, EVQ1, EVQ2, EVQ3, EVQ4, EVA, EVK, EVFD, ↓reduceIte, Nat.reduceEqDiff, Nat.reduceAdd, Nat.reduceSub, Nat.reduceMul, Nat.reduceLT, Nat.reduceLeDiff, reduceCtorEq, Int.reduceToNat, Int.reduceLT, Int.reduceLE, Int.reduceAdd, Int.reduceSub, Int.reduceMul, Int.reduceNeg, Int.reduceEq, Nat.reduceMod, forall_eq_or_imp, forall_eq, forall_const, cond_true, cond_false, decide_true, decide_false, true_imp_iff, implies_true, Int.cast_ofNat_Int, forall_eq']
  intro m _ hi _
  cases m with
  | zero =>
    simp only [if_true]
    unfold lb12_1
    simp only [↓EVP0, EVQ0, EVQ1, EVQ2, EVQ3, EVQ4, EVA, EVK, EVFD, ↓reduceIte, Nat.reduceEqDiff, Nat.reduceAdd, Nat.reduceSub, Nat.reduceMul, Nat.reduceLT, Nat.reduceLeDiff, reduceCtorEq, Int.reduceToNat, Int.reduceLT, Int.reduceLE, Int.reduceAdd, Int.reduceSub, Int.reduceMul, Int.reduceNeg, Int.reduceEq, Nat.reduceMod, forall_eq_or_imp, forall_eq, forall_const, cond_true, cond_false, decide_true, decide_false, true_imp_iff, implies_true, Int.cast_ofNat_Int, forall_eq']
    refine ⟨fun hg2 => ?_, fun hg2 => ?_⟩
    · have hi2 : 0 < n.caps.length := by have := of_decide_eq_true hg2; omega
      exact ⟨by omega, bsF_len rfl, by unfold appRoom; omega, by unfold In64; omega, hi2, (), bs_all, rfl, ap_allR⟩
    · have hcl : n.caps.length = 0 := by have := of_decide_eq_false hg2; omega
      intro _
      refine lwp_for (α := Unit) n.fls.length (fun k _ => True) (fun k _ => [(2, .ptr 1 0 0 0 0), (3, .ptr 2 0 0 0 0), (23, .rsl 4 n.fls.length (flsF n.fls)), (24, .sc (.int .i64 n.fls.length)), (25, .sc (.int .i64 k))])
        (fun k _ => if k = 0 then [(0, .box [.rsl 2 n.caps.length (rtsF n.caps), .rsl 4 n.fls.length (flsF n.fls)]), (0, .box [.nsl, .nsl]), (0, .box [.nsl, .nsl])] else [(0, .box [.rsl 2 n.caps.length (rtsF n.caps), .rsl 4 n.fls.length (flsF n.fls)]), (0, .box [.nsl, .nsl]), (0, .box [.nsl, .sl 5 (k - 1) 4 0 k]), (0, .box (flsF n.fls 0)), (0, .row 4 1 (fun i => List.take 4 (List.drop (i * 4) (flsF n.fls 0)))), (k - 1, .row 4 k (apF 4 (flsF n.fls) k))]) () trivial ?_ (fun _ _ => Nat.zero_le _) ?_
      · simp only [if_true]
        simp only [↓EVP0, EVQ0, EVQ1, EVQ2, EVQ3, EVQ4, EVA, EVK, EVFD, ↓reduceIte, Nat.reduceEqDiff, Nat.reduceAdd, Nat.reduceSub, Nat.reduceMul, Nat.reduceLT, Nat.reduceLeDiff, reduceCtorEq, Int.reduceToNat, Int.reduceLT, Int.reduceLE, Int.reduceAdd, Int.reduceSub, Int.reduceMul, Int.reduceNeg, Int.reduceEq, Nat.reduceMod, forall_eq_or_imp, forall_eq, forall_const, cond_true, cond_false, decide_true, decide_false, true_imp_iff, implies_true, Int.cast_ofNat_Int, forall_eq']
      intro k _ hk _
      cases k with
      | zero =>
        simp only [if_true]
        unfold lb12_0
        simp only [↓EVP0, EVQ0, EVQ1, EVQ2, EVQ3, EVQ4, EVA, EVK, EVFD, ↓reduceIte, Nat.reduceEqDiff, Nat.reduceAdd, Nat.reduceSub, Nat.reduceMul, Nat.reduceLT, Nat.reduceLeDiff, reduceCtorEq, Int.reduceToNat, Int.reduceLT, Int.reduceLE, Int.reduceAdd, Int.reduceSub, Int.reduceMul, Int.reduceNeg, Int.reduceEq, Nat.reduceMod, forall_eq_or_imp, forall_eq, forall_const, cond_true, cond_false, decide_true, decide_false, true_imp_iff, implies_true, Int.cast_ofNat_Int, forall_eq']
        refine ⟨fun hg4 => ?_, fun hg4 => ?_⟩
        · have hk2 : 0 < n.fls.length := by have := of_decide_eq_true hg4; omega
          exact ⟨by omega, bsF_len rfl, by unfold appRoom; omega, by unfold In64; omega, hk2, (), bs_allF, rfl, ap_allF⟩
        · have hf0 : n.fls.length = 0 := by have := of_decide_eq_false hg4; omega
          exact ⟨hcl, hf0⟩
      | succ k =>
        simp only [show ¬ k + 1 = 0 by omega, if_false]
        unfold lb12_0
        simp only [↓EVP0, EVQ0, EVQ1, EVQ2, EVQ3, EVQ4, EVA, EVK, EVFD, ↓reduceIte, Nat.reduceEqDiff, Nat.reduceAdd, Nat.reduceSub, Nat.reduceMul, Nat.reduceLT, Nat.reduceLeDiff, reduceCtorEq, Int.reduceToNat, Int.reduceLT, Int.reduceLE, Int.reduceAdd, Int.reduceSub, Int.reduceMul, Int.reduceNeg, Int.reduceEq, Nat.reduceMod, forall_eq_or_imp, forall_eq, forall_const, cond_true, cond_false, decide_true, decide_false, true_imp_iff, implies_true, Int.cast_ofNat_Int, forall_eq']
        have ecast : ((k : Int) + 1).toNat = k + 1 := by omega
        rw [ecast]
        refine ⟨fun hg4 => ?_, fun hg4 => ?_⟩
        · have hk2 : k + 1 < n.fls.length := by have := of_decide_eq_true hg4; omega
          exact ⟨⟨by omega, by omega⟩, bsF_len rfl, ⟨Nat.le_refl _, fun k hk => by rw [apF_fl hk]; rfl⟩, by unfold appRoom; omega, by unfold In64; omega, hk2, (), by rw [show k + 1 - 1 + 1 = k + 1 + 1 - 1 by omega], bs_allF, ⟨by omega, rfl⟩, ap_allF⟩
        · have hf0 : n.fls.length = k + 1 := by have := of_decide_eq_false hg4; omega
          exact ⟨hcl, hf0, ⟨Nat.le_refl _, fun i hi => by rw [apF_fl hi]; rfl⟩, fun i hi => apF_fl hi⟩
  | succ m =>
    simp only [show ¬ m + 1 = 0 by omega, if_false]
    unfold lb12_1
    simp only [↓EVP0, EVQ0, EVQ1, EVQ2, EVQ3, EVQ4, EVA, EVK, EVFD, ↓reduceIte, Nat.reduceEqDiff, Nat.reduceAdd, Nat.reduceSub, Nat.reduceMul, Nat.reduceLT, Nat.reduceLeDiff, reduceCtorEq, Int.reduceToNat, Int.reduceLT, Int.reduceLE, Int.reduceAdd, Int.reduceSub, Int.reduceMul, Int.reduceNeg, Int.reduceEq, Nat.reduceMod, forall_eq_or_imp, forall_eq, forall_const, cond_true, cond_false, decide_true, decide_false, true_imp_iff, implies_true, Int.cast_ofNat_Int, forall_eq']
    have ecast : ((m : Int) + 1).toNat = m + 1 := by omega
    rw [ecast]
    refine ⟨fun hg2 => ?_, fun hg2 => ?_⟩
    · have hi2 : m + 1 < n.caps.length := by have := of_decide_eq_true hg2; omega
      exact ⟨⟨by omega, by omega⟩, bsF_len rfl, ⟨Nat.le_refl _, fun k hk => by rw [apF_rt hk]; rfl⟩, by unfold appRoom; omega, by unfold In64; omega, hi2, (), by rw [show m + 1 - 1 + 1 = m + 1 + 1 - 1 by omega], bs_all, ⟨by omega, rfl⟩, ap_allR⟩
    · have hcl : n.caps.length = m + 1 := by have := of_decide_eq_false hg2; omega
      rw [show m + 1 - 1 = m by omega]
      intro _
      refine lwp_for (α := Unit) n.fls.length (fun k _ => True) (fun k _ => [(2, .ptr 1 0 0 0 0), (3, .ptr 2 0 0 0 0), (23, .rsl 4 n.fls.length (flsF n.fls)), (24, .sc (.int .i64 n.fls.length)), (25, .sc (.int .i64 k))])
        (fun k _ => if k = 0 then [(0, .box [.rsl 2 n.caps.length (rtsF n.caps), .rsl 4 n.fls.length (flsF n.fls)]), (0, .box [.nsl, .nsl]), (0, .box [.sl 5 m 2 0 (m + 1), .nsl]), (0, .box (rtsF n.caps 0)), (0, .row 2 1 (fun i => List.take 2 (List.drop (i * 2) (rtsF n.caps 0)))), (m, .row 2 (m + 1) (apF 2 (rtsF n.caps) (m + 1)))] else [(0, .box [.rsl 2 n.caps.length (rtsF n.caps), .rsl 4 n.fls.length (flsF n.fls)]), (0, .box [.nsl, .nsl]), (0, .box [.sl 5 m 2 0 (m + 1), .sl 8 (k - 1) 4 0 k]), (0, .box (rtsF n.caps 0)), (0, .row 2 1 (fun i => List.take 2 (List.drop (i * 2) (rtsF n.caps 0)))), (m, .row 2 (m + 1) (apF 2 (rtsF n.caps) (m + 1))), (0, .box (flsF n.fls 0)), (0, .row 4 1 (fun i => List.take 4 (List.drop (i * 4) (flsF n.fls 0)))), (k - 1, .row 4 k (apF 4 (flsF n.fls) k))]) () trivial ?_ (fun _ _ => Nat.zero_le _) ?_
      · simp only [if_true]
        simp only [↓EVP0, EVQ0, EVQ1, EVQ2, EVQ3, EVQ4, EVA, EVK, EVFD, ↓reduceIte, Nat.reduceEqDiff, Nat.reduceAdd, Nat.reduceSub, Nat.reduceMul, Nat.reduceLT, Nat.reduceLeDiff, reduceCtorEq, Int.reduceToNat, Int.reduceLT, Int.reduceLE, Int.reduceAdd, Int.reduceSub, Int.reduceMul, Int.reduceNeg, Int.reduceEq, Nat.reduceMod, forall_eq_or_imp, forall_eq, forall_const, cond_true, cond_false, decide_true, decide_false, true_imp_iff, implies_true, Int.cast_ofNat_Int, forall_eq']
        exact ⟨bs_all, ap_allR⟩
      intro k _ hk _
      cases k with
      | zero =>
        simp only [if_true]
        unfold lb12_0
        simp only [↓EVP0, EVQ0, EVQ1, EVQ2, EVQ3, EVQ4, EVA, EVK, EVFD, ↓reduceIte, Nat.reduceEqDiff, Nat.reduceAdd, Nat.reduceSub, Nat.reduceMul, Nat.reduceLT, Nat.reduceLeDiff, reduceCtorEq, Int.reduceToNat, Int.reduceLT, Int.reduceLE, Int.reduceAdd, Int.reduceSub, Int.reduceMul, Int.reduceNeg, Int.reduceEq, Nat.reduceMod, forall_eq_or_imp, forall_eq, forall_const, cond_true, cond_false, decide_true, decide_false, true_imp_iff, implies_true, Int.cast_ofNat_Int, forall_eq']
        refine ⟨fun hg4 => ?_, fun hg4 => ?_⟩
        · have hk2 : 0 < n.fls.length := by have := of_decide_eq_true hg4; omega
          exact ⟨by omega, bsF_len rfl, by unfold appRoom; omega, by unfold In64; omega, hk2, (), bs_all, ap_allR, bs_allF, rfl, ap_allF⟩
        · have hf0 : n.fls.length = 0 := by have := of_decide_eq_false hg4; omega
          exact ⟨⟨hcl, ⟨Nat.le_refl _, fun i hi => by rw [apF_rt hi]; rfl⟩, fun i hi => apF_rt hi⟩, hf0⟩
      | succ k =>
        simp only [show ¬ k + 1 = 0 by omega, if_false]
        unfold lb12_0
        simp only [↓EVP0, EVQ0, EVQ1, EVQ2, EVQ3, EVQ4, EVA, EVK, EVFD, ↓reduceIte, Nat.reduceEqDiff, Nat.reduceAdd, Nat.reduceSub, Nat.reduceMul, Nat.reduceLT, Nat.reduceLeDiff, reduceCtorEq, Int.reduceToNat, Int.reduceLT, Int.reduceLE, Int.reduceAdd, Int.reduceSub, Int.reduceMul, Int.reduceNeg, Int.reduceEq, Nat.reduceMod, forall_eq_or_imp, forall_eq, forall_const, cond_true, cond_false, decide_true, decide_false, true_imp_iff, implies_true, Int.cast_ofNat_Int, forall_eq']
        have ecast : ((k : Int) + 1).toNat = k + 1 := by omega
        rw [ecast]
        refine ⟨fun hg4 => ?_, fun hg4 => ?_⟩
        · have hk2 : k + 1 < n.fls.length := by have := of_decide_eq_true hg4; omega
          exact ⟨⟨by omega, by omega⟩, bsF_len rfl, ⟨Nat.le_refl _, fun k hk => by rw [apF_fl hk]; rfl⟩, by unfold appRoom; omega, by unfold In64; omega, hk2, (), by rw [show k + 1 - 1 + 1 = k + 1 + 1 - 1 by omega], bs_all, ap_allR, bs_allF, ⟨by omega, rfl⟩, ap_allF⟩
        · have hf0 : n.fls.length = k + 1 := by have := of_decide_eq_false hg4; omega
          exact ⟨⟨hcl, ⟨Nat.le_refl _, fun i hi => by rw [apF_rt hi]; rfl⟩, fun i hi => apF_rt hi⟩, hf0, ⟨Nat.le_refl _, fun i hi => by rw [apF_fl hi]; rfl⟩, fun i hi => apF_fl hi⟩
-- END OF PLAIN
def capB2 (c : Rt) : Bool := (vldR c && decide (0 ≤ c.n)) && !(decide (1000 < (fullR c).n.tdiv (fullR c).d) || (decide ((fullR c).n.tdiv (fullR c).d = 1000) && !decide ((fullR c).n.tmod (fullR c).d = 0)))
theorem capB2_eq (c : Rt) : capB2 c = capB c := by
  unfold capB2 capB
  cases hv : vldR c
  · rfl
  by_cases h0 : 0 ≤ c.n
  · rw [decide_eq_true h0, full_nrm hv, cmpR_E hv (int_vld (n := 1000) (by decide)).1, (int_vld (n := 1000) (by decide)).2]
    have hl := (vld_low hv).1
    have hn : 0 ≤ (nrmR c).n := by unfold nrmR; split <;> exact h0
    generalize nrmR c = C at *
    rw [Int.tdiv_eq_ediv_of_nonneg hn, Int.tmod_eq_emod_of_nonneg hn]
    have e1 := Int.mul_ediv_add_emod C.n C.d
    have e2 := Int.emod_nonneg C.n (show C.d ≠ 0 by omega)
    have e3 := Int.emod_lt_of_pos C.n (show 0 < C.d by omega)
    show (true && !_) = (true && (true && decide (cmpI (C.n * 1) (1000 * C.d) ≤ 0)))
    have key : cmpI (C.n * 1) (1000 * C.d) ≤ 0 ↔ C.n ≤ 1000 * C.d := by rw [Int.mul_one]; exact cmpI_le
    rw [Bool.true_and, Bool.true_and, Bool.true_and]
    by_cases h : C.n ≤ 1000 * C.d
    · rw [decide_eq_true (key.2 h)]
      have hq : ¬ 1000 < C.n / C.d := fun hq => by
        have := Int.mul_le_mul_of_nonneg_left (show 1001 ≤ C.n / C.d by omega) (show 0 ≤ C.d by omega)
        omega
      rw [decide_eq_false hq]
      by_cases h5 : C.n / C.d = 1000
      · rw [h5] at e1
        rw [decide_eq_true (show C.n % C.d = 0 by omega)]; simp
      · rw [decide_eq_false h5]; rfl
    · rw [decide_eq_false (fun h2 => h (key.1 h2))]
      by_cases hq : 1000 < C.n / C.d
      · rw [decide_eq_true hq]; rfl
      · have h5 : C.n / C.d = 1000 := by
          have h6 : ¬ C.n / C.d ≤ 999 := fun h6 => by
            have := Int.mul_le_mul_of_nonneg_left h6 (show 0 ≤ C.d by omega)
            omega
          omega
        rw [h5] at e1
        rw [h5, decide_eq_false (show ¬ C.n % C.d = 0 by omega)]; rfl
  · rw [decide_eq_false h0]; rfl
def flB0 (f : Fl) : Bool := decide (f.links.length ≠ 0) && (vldR f.dem && (decide (0 ≤ f.dem.n) && (f.bnd || decide (f.dem.n = 0))))
theorem tc_yes {l : List Int} {j k : Nat} {v : Int} (hj : j < k) (hk : k ≤ l.length) (h : l.getD j 0 = v) : (l.take k).contains v = true := by
  rw [List.contains_iff_mem, ← h, List.mem_take_iff_getElem]
  refine ⟨j, by omega, ?_⟩
  rw [List.getD_eq_getElem?_getD, List.getElem?_eq_getElem (by omega)]; rfl
theorem tc_no {l : List Int} {k : Nat} {v : Int} (h : ∀ j, j < k → l.getD j 0 ≠ v) : (l.take k).contains v = false := by
  rw [Bool.eq_false_iff]
  intro hc
  rw [List.contains_iff_mem, List.mem_take_iff_getElem] at hc
  obtain ⟨j, hj, e⟩ := hc
  refine h j (by omega) ?_
  rw [List.getD_eq_getElem?_getD, List.getElem?_eq_getElem (by omega)]; exact e
theorem notT {x : Bool} (h : (!x) = true) : x = false := by cases x <;> simp_all
theorem notF {x : Bool} (h : (!x) = false) : x = true := by cases x <;> simp_all
theorem flB0_c (l : Int) (v x b z : Bool) : (bif bif decide (l = 0) then true else !(v && x) then true else bif !b then !z else false) = !(!decide (l = 0) && (v && (x && (b || z)))) := by
  cases decide (l = 0) <;> cases v <;> cases x <;> cases b <;> cases z <;> rfl
theorem flB0_E (f : Fl) : flB0 f = (!decide ((f.links.length : Int) = 0) && (vldR f.dem && (decide (0 ≤ f.dem.n) && (f.bnd || decide (f.dem.n = 0))))) := by
  unfold flB0
  rw [← decide_not, decide_eq_decide.2 (show (f.links.length ≠ 0 ↔ ¬ (f.links.length : Int) = 0) by omega)]
theorem capB2_g (c : Rt) (h : (vldR c && decide (0 ≤ c.n)) = true) : (fullR c).d ≠ 0 ∧ In64 ((fullR c).n.tdiv (fullR c).d) := by
  simp only [Bool.and_eq_true, decide_eq_true_eq] at h
  obtain ⟨hv, h0⟩ := h
  rw [full_nrm hv]
  have hl := vld_low hv
  have hn : 0 ≤ (nrmR c).n := by unfold nrmR; split <;> exact h0
  refine ⟨by have := hl.1; omega, ?_⟩
  rw [Int.tdiv_eq_ediv_of_nonneg hn]
  have h1 := Int.ediv_le_self (nrmR c).d hn
  have h2 := Int.ediv_nonneg hn (show 0 ≤ (nrmR c).d by have := hl.1; omega)
  have h3 := hl.2.2.2.1
  unfold In64; omega
theorem capB2_c (a x y z : Bool) : (bif bif !a then true else x then true else bif y then !z else false) = !(a && !(x || (y && !z))) := by
  cases a <;> cases x <;> cases y <;> cases z <;> rfl
theorem flB_two (nc : Nat) (f : Fl) : flB nc f = (flB0 f && (List.range f.links.length).all (linkB nc f.links)) := by
  unfold flB flB0
  cases decide (f.links.length ≠ 0) <;> cases vldR f.dem <;> cases decide (0 ≤ f.dem.n) <;> cases f.bnd <;> cases decide (f.dem.n = 0) <;> cases (List.range f.links.length).all (linkB nc f.links) <;> rfl
theorem ev_refvalid (n : Nt) (h40 : n.caps.length ≤ 40) (hf40 : n.fls.length ≤ 40) : Ev Tryd.prog 11 [netV n] (.sc (.bool (vldN n))) := by
  unfold netV
  refine ev_fn Tryd.func11 comp11 (show 1 ≤ Tryd.f11.ntmps by decide) ?_; unfold cf11 rf11; simp only [↓EVP0, EVQ0, EVQ1, EVQ2, EVQ3, EVQ4, EVA, EVK, EVFD, ↓reduceIte, Nat.reduceEqDiff, Nat.reduceAdd, Nat.reduceSub, Nat.reduceMul, Nat.reduceLT, Nat.reduceLeDiff, reduceCtorEq, Int.reduceToNat, Int.reduceLT, Int.reduceLE, Int.reduceAdd, Int.reduceSub, Int.reduceMul, Int.reduceNeg, Int.reduceEq, Nat.reduceMod, forall_eq_or_imp, forall_eq, forall_const, cond_true, cond_false, decide_true, decide_false, true_imp_iff, implies_true, Int.cast_ofNat_Int, forall_eq']
  intro hc1
  refine ⟨fun hg => ?_, fun hg => ?_⟩
  · unfold vldN
    cases e1 : decide (n.caps.length ≤ 32)
    · rfl
    · cases e2 : decide (n.fls.length ≤ 32)
      · rfl
      · have e1 := of_decide_eq_true e1
        have e2 := of_decide_eq_true e2
        rw [decide_eq_false (show ¬ (32 : Int) < n.caps.length by omega), decide_eq_false (show ¬ (32 : Int) < n.fls.length by omega)] at hg
        simp at hg
  have e1 : n.caps.length ≤ 32 := by
    rcases Nat.lt_or_ge 32 n.caps.length with h | h
    · rw [decide_eq_true (show (32 : Int) < n.caps.length by omega)] at hg; simp at hg
    · exact h
  have e2 : n.fls.length ≤ 32 := by
    rcases Nat.lt_or_ge 32 n.fls.length with h | h
    · rw [decide_eq_true (show (32 : Int) < n.fls.length by omega)] at hg; simp at hg
    · exact h
  refine lwp_for (α := Unit) n.caps.length (fun i _ => ∀ j, j < i → capB (n.caps.getD j default) = true) (fun i _ => [(1, .ptr 0 0 0 0 0), (3, .sc (.int .i64 i))])
    (fun i _ => [(0, .box [.rsl 2 n.caps.length (rtsF n.caps), .rsl 4 n.fls.length (flsF n.fls)])]) () (fun j hj => absurd hj (Nat.not_lt_zero _)) ?_ (fun _ _ => Nat.zero_le _) ?_
  · simp only [↓EVP0, EVQ0, EVQ1, EVQ2, EVQ3, EVQ4, EVA, EVK, EVFD, ↓reduceIte, Nat.reduceEqDiff, Nat.reduceAdd, Nat.reduceSub, Nat.reduceMul, Nat.reduceLT, Nat.reduceLeDiff, reduceCtorEq, Int.reduceToNat, Int.reduceLT, Int.reduceLE, Int.reduceAdd, Int.reduceSub, Int.reduceMul, Int.reduceNeg, Int.reduceEq, Nat.reduceMod, forall_eq_or_imp, forall_eq, forall_const, cond_true, cond_false, decide_true, decide_false, true_imp_iff, implies_true, Int.cast_ofNat_Int, forall_eq']
  intro i _ hi hx
  unfold lb11_3
  simp only [↓EVP0, EVQ0, EVQ1, EVQ2, EVQ3, EVQ4, EVA, EVK, EVFD, ↓reduceIte, Nat.reduceEqDiff, Nat.reduceAdd, Nat.reduceSub, Nat.reduceMul, Nat.reduceLT, Nat.reduceLeDiff, reduceCtorEq, Int.reduceToNat, Int.reduceLT, Int.reduceLE, Int.reduceAdd, Int.reduceSub, Int.reduceMul, Int.reduceNeg, Int.reduceEq, Nat.reduceMod, forall_eq_or_imp, forall_eq, forall_const, cond_true, cond_false, decide_true, decide_false, true_imp_iff, implies_true, Int.cast_ofNat_Int, forall_eq']
  intro _
  refine ⟨fun hg2 => ?_, fun hg2 => ?_⟩
  · have hi2 : i < n.caps.length := by have := of_decide_eq_true hg2; omega
    have h1 := ev_full (n.caps.getD i default)
    have h2 := ev_fits33 (n.caps.getD i default)
    unfold ratV at h1 h2
    refine ⟨⟨by omega, by omega⟩, ?_⟩
    refine callK_ro (h1) ?_ ?_
    · simp only [↓EVP0, EVQ0, EVQ1, EVQ2, EVQ3, EVQ4, EVA, EVK, EVFD, ↓reduceIte, Nat.reduceEqDiff, Nat.reduceAdd, Nat.reduceSub, Nat.reduceMul, Nat.reduceLT, Nat.reduceLeDiff, reduceCtorEq, Int.reduceToNat, Int.reduceLT, Int.reduceLE, Int.reduceAdd, Int.reduceSub, Int.reduceMul, Int.reduceNeg, Int.reduceEq, Nat.reduceMod, forall_eq_or_imp, forall_eq, forall_const, cond_true, cond_false, decide_true, decide_false, true_imp_iff, implies_true, Int.cast_ofNat_Int, forall_eq']
    simp only [↓EVP0, EVQ0, EVQ1, EVQ2, EVQ3, EVQ4, EVA, EVK, EVFD, ↓reduceIte, Nat.reduceEqDiff, Nat.reduceAdd, Nat.reduceSub, Nat.reduceMul, Nat.reduceLT, Nat.reduceLeDiff, reduceCtorEq, Int.reduceToNat, Int.reduceLT, Int.reduceLE, Int.reduceAdd, Int.reduceSub, Int.reduceMul, Int.reduceNeg, Int.reduceEq, Nat.reduceMod, forall_eq_or_imp, forall_eq, forall_const, cond_true, cond_false, decide_true, decide_false, true_imp_iff, implies_true, Int.cast_ofNat_Int, forall_eq']
    refine ⟨⟨by omega, by omega⟩, ?_⟩
    refine callK_ro (h2) ?_ ?_
    · simp only [↓EVP0, EVQ0, EVQ1, EVQ2, EVQ3, EVQ4, EVA, EVK, EVFD, ↓reduceIte, Nat.reduceEqDiff, Nat.reduceAdd, Nat.reduceSub, Nat.reduceMul, Nat.reduceLT, Nat.reduceLeDiff, reduceCtorEq, Int.reduceToNat, Int.reduceLT, Int.reduceLE, Int.reduceAdd, Int.reduceSub, Int.reduceMul, Int.reduceNeg, Int.reduceEq, Nat.reduceMod, forall_eq_or_imp, forall_eq, forall_const, cond_true, cond_false, decide_true, decide_false, true_imp_iff, implies_true, Int.cast_ofNat_Int, forall_eq']
    simp only [↓EVP0, EVQ0, EVQ1, EVQ2, EVQ3, EVQ4, EVA, EVK, EVFD, ↓reduceIte, Nat.reduceEqDiff, Nat.reduceAdd, Nat.reduceSub, Nat.reduceMul, Nat.reduceLT, Nat.reduceLeDiff, reduceCtorEq, Int.reduceToNat, Int.reduceLT, Int.reduceLE, Int.reduceAdd, Int.reduceSub, Int.reduceMul, Int.reduceNeg, Int.reduceEq, Nat.reduceMod, forall_eq_or_imp, forall_eq, forall_const, cond_true, cond_false, decide_true, decide_false, true_imp_iff, implies_true, Int.cast_ofNat_Int, forall_eq']
    have hgd := capB2_g (n.caps.getD i default)
    have hcap := capB2_eq (n.caps.getD i default)
    have hno := fun h => cap_no (n := n) hi2 h
    rw [← hcap] at hno
    have hsn := fun h : capB (n.caps.getD i default) = true => snoc_all hx h
    rw [← hcap] at hsn
    unfold capB2 at hno hsn
    generalize n.caps.getD i default = c at *
    have hA : ∀ x : Bool, (!bif !(vldR c && decide (0 ≤ c.n)) then true else x) = true → (vldR c && decide (0 ≤ c.n)) = true := by
      intro x h
      cases e : (vldR c && decide (0 ≤ c.n))
      · rw [e] at h; simp at h
      · rfl
    refine ⟨⟨fun h => (hgd h).1, fun h => (hgd h).2⟩, ⟨fun h => (hgd (hA _ h)).1, fun h => (hgd (hA _ h)).2⟩, fun h => (hgd (hA _ (Bool.and_eq_true _ _ ▸ h).1)).1, ?_⟩
    rw [capB2_c]
    refine ⟨fun h => hno (notT h), fun h => ⟨by unfold In64; omega, hi2, (), hsn (notF h)⟩⟩
  have hi2 : i = n.caps.length := by have := of_decide_eq_false hg2; omega
  subst hi2
  refine lwp_for (α := Unit) n.fls.length (fun i _ => ∀ j, j < i → flB n.caps.length (n.fls.getD j default) = true) (fun i _ => [(1, .ptr 0 0 0 0 0), (5, .sc (.int .i64 i))])
    (fun i _ => [(0, .box [.rsl 2 n.caps.length (rtsF n.caps), .rsl 4 n.fls.length (flsF n.fls)])]) () (fun j hj => absurd hj (Nat.not_lt_zero _)) ?_ (fun _ _ => Nat.zero_le _) ?_
  · simp only [↓EVP0, EVQ0, EVQ1, EVQ2, EVQ3, EVQ4, EVA, EVK, EVFD, ↓reduceIte, Nat.reduceEqDiff, Nat.reduceAdd, Nat.reduceSub, Nat.reduceMul, Nat.reduceLT, Nat.reduceLeDiff, reduceCtorEq, Int.reduceToNat, Int.reduceLT, Int.reduceLE, Int.reduceAdd, Int.reduceSub, Int.reduceMul, Int.reduceNeg, Int.reduceEq, Nat.reduceMod, forall_eq_or_imp, forall_eq, forall_const, cond_true, cond_false, decide_true, decide_false, true_imp_iff, implies_true, Int.cast_ofNat_Int, forall_eq']
  intro i _ hi hy
  unfold lb11_2
  simp only [↓EVP0, EVQ0, EVQ1, EVQ2, EVQ3, EVQ4, EVA, EVK, EVFD, ↓reduceIte, Nat.reduceEqDiff, Nat.reduceAdd, Nat.reduceSub, Nat.reduceMul, Nat.reduceLT, Nat.reduceLeDiff, reduceCtorEq, Int.reduceToNat, Int.reduceLT, Int.reduceLE, Int.reduceAdd, Int.reduceSub, Int.reduceMul, Int.reduceNeg, Int.reduceEq, Nat.reduceMod, forall_eq_or_imp, forall_eq, forall_const, cond_true, cond_false, decide_true, decide_false, true_imp_iff, implies_true, Int.cast_ofNat_Int, forall_eq']
  intro _
  refine ⟨fun hg2 => ?_, fun hg2 => ?_⟩
  · have hi2 : i < n.fls.length := by have := of_decide_eq_true hg2; omega
    have h2 := ev_fits33 (n.fls.getD i default).dem
    have hno := fun h => fl_no (n := n) hi2 h
    have hsn := fun h : flB n.caps.length (n.fls.getD i default) = true => snoc_all hy h
    unfold ratV at h2
    refine ⟨⟨by omega, by omega⟩, ?_⟩
    intro _
    (refine lops_ge_imp ?_; simp only [↓EVP0, EVQ0, EVQ1, EVQ2, EVQ3, EVQ4, EVA, EVK, EVFD, ↓reduceIte, Nat.reduceEqDiff, Nat.reduceAdd, Nat.reduceSub, Nat.reduceMul, Nat.reduceLT, Nat.reduceLeDiff, reduceCtorEq, Int.reduceToNat, Int.reduceLT, Int.reduceLE, Int.reduceAdd, Int.reduceSub, Int.reduceMul, Int.reduceNeg, Int.reduceEq, Nat.reduceMod, forall_eq_or_imp, forall_eq, forall_const, cond_true, cond_false, decide_true, decide_false, true_imp_iff, implies_true, Int.cast_ofNat_Int, forall_eq'])
    refine gCallK_ro _ (fun _ => h2) (fun _ => ?_) ?_
    · simp only [↓EVP0, EVQ0, EVQ1, EVQ2, EVQ3, EVQ4, EVA, EVK, EVFD, ↓reduceIte, Nat.reduceEqDiff, Nat.reduceAdd, Nat.reduceSub, Nat.reduceMul, Nat.reduceLT, Nat.reduceLeDiff, reduceCtorEq, Int.reduceToNat, Int.reduceLT, Int.reduceLE, Int.reduceAdd, Int.reduceSub, Int.reduceMul, Int.reduceNeg, Int.reduceEq, Nat.reduceMod, forall_eq_or_imp, forall_eq, forall_const, cond_true, cond_false, decide_true, decide_false, true_imp_iff, implies_true, Int.cast_ofNat_Int, forall_eq']
    simp only [↓EVP0, EVQ0, EVQ1, EVQ2, EVQ3, EVQ4, EVA, EVK, EVFD, ↓reduceIte, Nat.reduceEqDiff, Nat.reduceAdd, Nat.reduceSub, Nat.reduceMul, Nat.reduceLT, Nat.reduceLeDiff, reduceCtorEq, Int.reduceToNat, Int.reduceLT, Int.reduceLE, Int.reduceAdd, Int.reduceSub, Int.reduceMul, Int.reduceNeg, Int.reduceEq, Nat.reduceMod, forall_eq_or_imp, forall_eq, forall_const, cond_true, cond_false, decide_true, decide_false, true_imp_iff, implies_true, Int.cast_ofNat_Int, forall_eq']
    rw [flB0_c, ← flB0_E]
    rw [flB_two] at hno hsn
    generalize n.fls.getD i default = f at *
    refine ⟨fun h => hno (by rw [notT h]; rfl), fun h => ?_⟩
    rw [notF h, Bool.true_and] at hno hsn
    refine lwp_for (α := Unit) f.links.length (fun k _ => ∀ j, j < k → linkB n.caps.length f.links j = true) (fun k _ => [(1, .ptr 0 0 0 0 0), (5, .sc (.int .i64 i)), (6, .ptr 1 0 0 0 0), (7, .sc (.int .i64 k))])
      (fun k _ => [(0, .box [.rsl 2 n.caps.length (rtsF n.caps), .rsl 4 n.fls.length (flsF n.fls)]), (0, .box [.rsl 1 f.links.length (intsF f.links), .sc (.bool f.bnd), .sc (.int .i64 f.dem.n), .sc (.int .i64 f.dem.d)])]) () (fun j hj => absurd hj (Nat.not_lt_zero _)) ?_ (fun _ _ => Nat.zero_le _) ?_
    · simp only [↓EVP0, EVQ0, EVQ1, EVQ2, EVQ3, EVQ4, EVA, EVK, EVFD, ↓reduceIte, Nat.reduceEqDiff, Nat.reduceAdd, Nat.reduceSub, Nat.reduceMul, Nat.reduceLT, Nat.reduceLeDiff, reduceCtorEq, Int.reduceToNat, Int.reduceLT, Int.reduceLE, Int.reduceAdd, Int.reduceSub, Int.reduceMul, Int.reduceNeg, Int.reduceEq, Nat.reduceMod, forall_eq_or_imp, forall_eq, forall_const, cond_true, cond_false, decide_true, decide_false, true_imp_iff, implies_true, Int.cast_ofNat_Int, forall_eq']
    intro k _ hk hz
    unfold lb11_1
    simp only [↓EVP0, EVQ0, EVQ1, EVQ2, EVQ3, EVQ4, EVA, EVK, EVFD, ↓reduceIte, Nat.reduceEqDiff, Nat.reduceAdd, Nat.reduceSub, Nat.reduceMul, Nat.reduceLT, Nat.reduceLeDiff, reduceCtorEq, Int.reduceToNat, Int.reduceLT, Int.reduceLE, Int.reduceAdd, Int.reduceSub, Int.reduceMul, Int.reduceNeg, Int.reduceEq, Nat.reduceMod, forall_eq_or_imp, forall_eq, forall_const, cond_true, cond_false, decide_true, decide_false, true_imp_iff, implies_true, Int.cast_ofNat_Int, forall_eq']
    intro hl1
    refine ⟨fun hg3 => ?_, fun hg3 => ?_⟩
    · have hk2 : k < f.links.length := by have := of_decide_eq_true hg3; omega
      have hB : linkB n.caps.length f.links k = (!(bif decide (f.links.getD k 0 < 0) then true else decide ((n.caps.length : Int) ≤ f.links.getD k 0)) && !(f.links.take k).contains (f.links.getD k 0)) := by
        have := linkB_cond n.caps.length f.links k
        cases e1 : (bif decide (f.links.getD k 0 < 0) then true else decide ((n.caps.length : Int) ≤ f.links.getD k 0)) <;> rw [e1] at this <;> simp at this ⊢ <;> simp [this]
      refine ⟨⟨by omega, by omega⟩, fun _ => ⟨by omega, by omega⟩, fun h4 => ?_, fun h4 => ?_⟩
      · exact hno (rng_no hk2 (by rw [hB, h4]; rfl))
      rw [h4, Bool.not_false, Bool.true_and] at hB
      refine lwp_for (α := Unit) k (fun j _ => ∀ m, m < j → f.links.getD m 0 ≠ f.links.getD k 0) (fun j _ => [(1, .ptr 0 0 0 0 0), (5, .sc (.int .i64 i)), (6, .ptr 1 0 0 0 0), (7, .sc (.int .i64 k)), (8, .sc (.int .i64 j))])
        (fun _ _ => [(0, .box [.rsl 2 n.caps.length (rtsF n.caps), .rsl 4 n.fls.length (flsF n.fls)]), (0, .box [.rsl 1 f.links.length (intsF f.links), .sc (.bool f.bnd), .sc (.int .i64 f.dem.n), .sc (.int .i64 f.dem.d)])]) () (fun j hj => absurd hj (Nat.not_lt_zero _)) ?_ (fun _ _ => Nat.zero_le _) ?_
      · simp only [↓EVP0, EVQ0, EVQ1, EVQ2, EVQ3, EVQ4, EVA, EVK, EVFD, ↓reduceIte, Nat.reduceEqDiff, Nat.reduceAdd, Nat.reduceSub, Nat.reduceMul, Nat.reduceLT, Nat.reduceLeDiff, reduceCtorEq, Int.reduceToNat, Int.reduceLT, Int.reduceLE, Int.reduceAdd, Int.reduceSub, Int.reduceMul, Int.reduceNeg, Int.reduceEq, Nat.reduceMod, forall_eq_or_imp, forall_eq, forall_const, cond_true, cond_false, decide_true, decide_false, true_imp_iff, implies_true, Int.cast_ofNat_Int, forall_eq']
      intro j _ hj hw
      unfold lb11_0
      simp only [↓EVP0, EVQ0, EVQ1, EVQ2, EVQ3, EVQ4, EVA, EVK, EVFD, ↓reduceIte, Nat.reduceEqDiff, Nat.reduceAdd, Nat.reduceSub, Nat.reduceMul, Nat.reduceLT, Nat.reduceLeDiff, reduceCtorEq, Int.reduceToNat, Int.reduceLT, Int.reduceLE, Int.reduceAdd, Int.reduceSub, Int.reduceMul, Int.reduceNeg, Int.reduceEq, Nat.reduceMod, forall_eq_or_imp, forall_eq, forall_const, cond_true, cond_false, decide_true, decide_false, true_imp_iff, implies_true, Int.cast_ofNat_Int, forall_eq']
      refine ⟨fun hg5 => ?_, fun hg5 => ?_⟩
      · have hj2 : j < k := by have := of_decide_eq_true hg5; omega
        refine ⟨⟨by omega, by omega⟩, ⟨by omega, by omega⟩, fun h6 => ?_, fun h6 => ⟨by unfold In64; omega, hj2, (), snoc_all hw (of_decide_eq_false h6)⟩⟩
        exact hno (rng_no hk2 (by rw [hB, tc_yes hj2 (by omega) (of_decide_eq_true h6)]; rfl))
      · have hj2 : j = k := by have := of_decide_eq_false hg5; omega
        subst hj2
        exact ⟨by unfold In64; omega, hk2, (), snoc_all hz (by rw [hB, tc_no hw]; rfl)⟩
    · have hk2 : k = f.links.length := by have := of_decide_eq_false hg3; omega
      subst hk2
      exact ⟨by unfold In64; omega, hi2, (), hsn (rng_yes hz)⟩
  have hi2 : i = n.fls.length := by have := of_decide_eq_false hg2; omega
  subst hi2
  unfold vldN
  rw [all_yes hx, all_yes hy, decide_eq_true e1, decide_eq_true e2]; rfl
theorem ev_lawValid33 (n : Nt) (hn : NtOk n) : Ev Tryd.prog 3 [netV n] (.sc (.bool true)) := by
  have h0 := ev_awake33
  have h1 := ev_few33 n
  have h2 := ev_validN n hn
  have h3 := ev_plain33 n
  have h4 := ev_refvalid n
  unfold netV at *
  refine ev_fn Tryd.func3 comp3 (show 1 ≤ Tryd.f3.ntmps by decide) ?_; unfold cf3 rf3; simp only [↓EVP0, EVQ0, EVQ1, EVQ2, EVQ3, EVQ4, EVA, EVK, EVFD, ↓reduceIte, Nat.reduceEqDiff, Nat.reduceAdd, Nat.reduceSub, Nat.reduceMul, Nat.reduceLT, Nat.reduceLeDiff, reduceCtorEq, Int.reduceToNat, Int.reduceLT, Int.reduceLE, Int.reduceAdd, Int.reduceSub, Int.reduceMul, Int.reduceNeg, Int.reduceEq, Nat.reduceMod, forall_eq_or_imp, forall_eq, forall_const, cond_true, cond_false, decide_true, decide_false, true_imp_iff, implies_true, Int.cast_ofNat_Int, forall_eq']
  refine callK_ro (h0) ?_ ?_
  · simp only [↓EVP0, EVQ0, EVQ1, EVQ2, EVQ3, EVQ4, EVA, EVK, EVFD, ↓reduceIte, Nat.reduceEqDiff, Nat.reduceAdd, Nat.reduceSub, Nat.reduceMul, Nat.reduceLT, Nat.reduceLeDiff, reduceCtorEq, Int.reduceToNat, Int.reduceLT, Int.reduceLE, Int.reduceAdd, Int.reduceSub, Int.reduceMul, Int.reduceNeg, Int.reduceEq, Nat.reduceMod, forall_eq_or_imp, forall_eq, forall_const, cond_true, cond_false, decide_true, decide_false, true_imp_iff, implies_true, Int.cast_ofNat_Int, forall_eq']
  simp only [↓EVP0, EVQ0, EVQ1, EVQ2, EVQ3, EVQ4, EVA, EVK, EVFD, ↓reduceIte, Nat.reduceEqDiff, Nat.reduceAdd, Nat.reduceSub, Nat.reduceMul, Nat.reduceLT, Nat.reduceLeDiff, reduceCtorEq, Int.reduceToNat, Int.reduceLT, Int.reduceLE, Int.reduceAdd, Int.reduceSub, Int.reduceMul, Int.reduceNeg, Int.reduceEq, Nat.reduceMod, forall_eq_or_imp, forall_eq, forall_const, cond_true, cond_false, decide_true, decide_false, true_imp_iff, implies_true, Int.cast_ofNat_Int, forall_eq']
  (refine lops_ge_imp ?_; simp only [↓EVP0, EVQ0, EVQ1, EVQ2, EVQ3, EVQ4, EVA, EVK, EVFD, ↓reduceIte, Nat.reduceEqDiff, Nat.reduceAdd, Nat.reduceSub, Nat.reduceMul, Nat.reduceLT, Nat.reduceLeDiff, reduceCtorEq, Int.reduceToNat, Int.reduceLT, Int.reduceLE, Int.reduceAdd, Int.reduceSub, Int.reduceMul, Int.reduceNeg, Int.reduceEq, Nat.reduceMod, forall_eq_or_imp, forall_eq, forall_const, cond_true, cond_false, decide_true, decide_false, true_imp_iff, implies_true, Int.cast_ofNat_Int, forall_eq'])
  refine gCallK_ro _ (fun _ => h1) (fun _ => ?_) ?_
  · simp only [↓EVP0, EVQ0, EVQ1, EVQ2, EVQ3, EVQ4, EVA, EVK, EVFD, ↓reduceIte, Nat.reduceEqDiff, Nat.reduceAdd, Nat.reduceSub, Nat.reduceMul, Nat.reduceLT, Nat.reduceLeDiff, reduceCtorEq, Int.reduceToNat, Int.reduceLT, Int.reduceLE, Int.reduceAdd, Int.reduceSub, Int.reduceMul, Int.reduceNeg, Int.reduceEq, Nat.reduceMod, forall_eq_or_imp, forall_eq, forall_const, cond_true, cond_false, decide_true, decide_false, true_imp_iff, implies_true, Int.cast_ofNat_Int, forall_eq']
  simp only [↓EVP0, EVQ0, EVQ1, EVQ2, EVQ3, EVQ4, EVA, EVK, EVFD, ↓reduceIte, Nat.reduceEqDiff, Nat.reduceAdd, Nat.reduceSub, Nat.reduceMul, Nat.reduceLT, Nat.reduceLeDiff, reduceCtorEq, Int.reduceToNat, Int.reduceLT, Int.reduceLE, Int.reduceAdd, Int.reduceSub, Int.reduceMul, Int.reduceNeg, Int.reduceEq, Nat.reduceMod, forall_eq_or_imp, forall_eq, forall_const, cond_true, cond_false, decide_true, decide_false, true_imp_iff, implies_true, Int.cast_ofNat_Int, forall_eq']
  refine ⟨fun hg => ?_, fun hg hf1 => ?_⟩
  · refine callK_ro (h0) ?_ ?_
    · simp only [↓EVP0, EVQ0, EVQ1, EVQ2, EVQ3, EVQ4, EVA, EVK, EVFD, ↓reduceIte, Nat.reduceEqDiff, Nat.reduceAdd, Nat.reduceSub, Nat.reduceMul, Nat.reduceLT, Nat.reduceLeDiff, reduceCtorEq, Int.reduceToNat, Int.reduceLT, Int.reduceLE, Int.reduceAdd, Int.reduceSub, Int.reduceMul, Int.reduceNeg, Int.reduceEq, Nat.reduceMod, forall_eq_or_imp, forall_eq, forall_const, cond_true, cond_false, decide_true, decide_false, true_imp_iff, implies_true, Int.cast_ofNat_Int, forall_eq']
    simp only [↓EVP0, EVQ0, EVQ1, EVQ2, EVQ3, EVQ4, EVA, EVK, EVFD, ↓reduceIte, Nat.reduceEqDiff, Nat.reduceAdd, Nat.reduceSub, Nat.reduceMul, Nat.reduceLT, Nat.reduceLeDiff, reduceCtorEq, Int.reduceToNat, Int.reduceLT, Int.reduceLE, Int.reduceAdd, Int.reduceSub, Int.reduceMul, Int.reduceNeg, Int.reduceEq, Nat.reduceMod, forall_eq_or_imp, forall_eq, forall_const, cond_true, cond_false, decide_true, decide_false, true_imp_iff, implies_true, Int.cast_ofNat_Int, forall_eq']
  have e1 : fewB n = true := by simpa using hg
  obtain ⟨hc40, hf40⟩ := few_of e1
  refine lwp_for (α := Unit) n.fls.length (fun i _ => True) (fun i _ => [(1, .ptr 0 0 0 0 0), (16, .rsl 4 n.fls.length (flsF n.fls)), (17, .sc (.int .i64 n.fls.length)), (18, .sc (.int .i64 i))])
    (fun i _ => [(0, .box [.rsl 2 n.caps.length (rtsF n.caps), .rsl 4 n.fls.length (flsF n.fls)])]) () trivial ?_ (fun _ _ => Nat.zero_le _) ?_
  · simp only [↓EVP0, EVQ0, EVQ1, EVQ2, EVQ3, EVQ4, EVA, EVK, EVFD, ↓reduceIte, Nat.reduceEqDiff, Nat.reduceAdd, Nat.reduceSub, Nat.reduceMul, Nat.reduceLT, Nat.reduceLeDiff, reduceCtorEq, Int.reduceToNat, Int.reduceLT, Int.reduceLE, Int.reduceAdd, Int.reduceSub, Int.reduceMul, Int.reduceNeg, Int.reduceEq, Nat.reduceMod, forall_eq_or_imp, forall_eq, forall_const, cond_true, cond_false, decide_true, decide_false, true_imp_iff, implies_true, Int.cast_ofNat_Int, forall_eq']
  intro i _ hi _
  unfold lb3_1
  simp only [↓EVP0, EVQ0, EVQ1, EVQ2, EVQ3, EVQ4, EVA, EVK, EVFD, ↓reduceIte, Nat.reduceEqDiff, Nat.reduceAdd, Nat.reduceSub, Nat.reduceMul, Nat.reduceLT, Nat.reduceLeDiff, reduceCtorEq, Int.reduceToNat, Int.reduceLT, Int.reduceLE, Int.reduceAdd, Int.reduceSub, Int.reduceMul, Int.reduceNeg, Int.reduceEq, Nat.reduceMod, forall_eq_or_imp, forall_eq, forall_const, cond_true, cond_false, decide_true, decide_false, true_imp_iff, implies_true, Int.cast_ofNat_Int, forall_eq']
  refine ⟨fun hg2 => ?_, fun hg2 => ?_⟩
  · have hi2 : i < n.fls.length := by have := of_decide_eq_true hg2; omega
    exact ⟨⟨by omega, by omega⟩, fun _ => trivial, fun _ => ⟨by unfold In64; omega, hi2, (), trivial⟩⟩
  have hi2 : i = n.fls.length := by have := of_decide_eq_false hg2; omega
  subst hi2
  intro hc1
  refine lwp_for (α := Unit) n.caps.length (fun i _ => True) (fun i _ => [(1, .ptr 0 0 0 0 0), (34, .rsl 2 n.caps.length (rtsF n.caps)), (35, .sc (.int .i64 n.caps.length)), (36, .sc (.int .i64 i))])
    (fun i _ => [(0, .box [.rsl 2 n.caps.length (rtsF n.caps), .rsl 4 n.fls.length (flsF n.fls)])]) () trivial ?_ (fun _ _ => Nat.zero_le _) ?_
  · simp only [↓EVP0, EVQ0, EVQ1, EVQ2, EVQ3, EVQ4, EVA, EVK, EVFD, ↓reduceIte, Nat.reduceEqDiff, Nat.reduceAdd, Nat.reduceSub, Nat.reduceMul, Nat.reduceLT, Nat.reduceLeDiff, reduceCtorEq, Int.reduceToNat, Int.reduceLT, Int.reduceLE, Int.reduceAdd, Int.reduceSub, Int.reduceMul, Int.reduceNeg, Int.reduceEq, Nat.reduceMod, forall_eq_or_imp, forall_eq, forall_const, cond_true, cond_false, decide_true, decide_false, true_imp_iff, implies_true, Int.cast_ofNat_Int, forall_eq']
  intro i _ hi _
  unfold lb3_0
  simp only [↓EVP0, EVQ0, EVQ1, EVQ2, EVQ3, EVQ4, EVA, EVK, EVFD, ↓reduceIte, Nat.reduceEqDiff, Nat.reduceAdd, Nat.reduceSub, Nat.reduceMul, Nat.reduceLT, Nat.reduceLeDiff, reduceCtorEq, Int.reduceToNat, Int.reduceLT, Int.reduceLE, Int.reduceAdd, Int.reduceSub, Int.reduceMul, Int.reduceNeg, Int.reduceEq, Nat.reduceMod, forall_eq_or_imp, forall_eq, forall_const, cond_true, cond_false, decide_true, decide_false, true_imp_iff, implies_true, Int.cast_ofNat_Int, forall_eq']
  refine ⟨fun hg2 => ?_, fun hg2 => ?_⟩
  · have hi2 : i < n.caps.length := by have := of_decide_eq_true hg2; omega
    exact ⟨⟨by omega, by omega⟩, fun _ => trivial, fun _ => ⟨by unfold In64; omega, hi2, (), trivial⟩⟩
  have h3 := h3 hc40 hf40
  have h4 := h4 hc40 hf40
  first | refine qCallK_ro (h2) ?_ ?_ | refine eCallK_ro (h2) ?_ ?_
  · simp only [↓EVP0, EVQ0, EVQ1, EVQ2, EVQ3, EVQ4, EVA, EVK, EVFD, ↓reduceIte, Nat.reduceEqDiff, Nat.reduceAdd, Nat.reduceSub, Nat.reduceMul, Nat.reduceLT, Nat.reduceLeDiff, reduceCtorEq, Int.reduceToNat, Int.reduceLT, Int.reduceLE, Int.reduceAdd, Int.reduceSub, Int.reduceMul, Int.reduceNeg, Int.reduceEq, Nat.reduceMod, forall_eq_or_imp, forall_eq, forall_const, cond_true, cond_false, decide_true, decide_false, true_imp_iff, implies_true, Int.cast_ofNat_Int, forall_eq']
  simp only [↓EVP0, EVQ0, EVQ1, EVQ2, EVQ3, EVQ4, EVA, EVK, EVFD, ↓reduceIte, Nat.reduceEqDiff, Nat.reduceAdd, Nat.reduceSub, Nat.reduceMul, Nat.reduceLT, Nat.reduceLeDiff, reduceCtorEq, Int.reduceToNat, Int.reduceLT, Int.reduceLE, Int.reduceAdd, Int.reduceSub, Int.reduceMul, Int.reduceNeg, Int.reduceEq, Nat.reduceMod, forall_eq_or_imp, forall_eq, forall_const, cond_true, cond_false, decide_true, decide_false, true_imp_iff, implies_true, Int.cast_ofNat_Int, forall_eq']
  first | refine qCallK_ro (h3) ?_ ?_ | refine eCallK_ro (h3) ?_ ?_
  · simp only [↓EVP0, EVQ0, EVQ1, EVQ2, EVQ3, EVQ4, EVA, EVK, EVFD, ↓reduceIte, Nat.reduceEqDiff, Nat.reduceAdd, Nat.reduceSub, Nat.reduceMul, Nat.reduceLT, Nat.reduceLeDiff, reduceCtorEq, Int.reduceToNat, Int.reduceLT, Int.reduceLE, Int.reduceAdd, Int.reduceSub, Int.reduceMul, Int.reduceNeg, Int.reduceEq, Nat.reduceMod, forall_eq_or_imp, forall_eq, forall_const, cond_true, cond_false, decide_true, decide_false, true_imp_iff, implies_true, Int.cast_ofNat_Int, forall_eq']
  simp only [↓EVP0, EVQ0, EVQ1, EVQ2, EVQ3, EVQ4, EVA, EVK, EVFD, ↓reduceIte, Nat.reduceEqDiff, Nat.reduceAdd, Nat.reduceSub, Nat.reduceMul, Nat.reduceLT, Nat.reduceLeDiff, reduceCtorEq, Int.reduceToNat, Int.reduceLT, Int.reduceLE, Int.reduceAdd, Int.reduceSub, Int.reduceMul, Int.reduceNeg, Int.reduceEq, Nat.reduceMod, forall_eq_or_imp, forall_eq, forall_const, cond_true, cond_false, decide_true, decide_false, true_imp_iff, implies_true, Int.cast_ofNat_Int, forall_eq']
  first | refine qCallK_ro (h4) ?_ ?_ | refine eCallK_ro (h4) ?_ ?_
  · simp only [↓EVP0, EVQ0, EVQ1, EVQ2, EVQ3, EVQ4, EVA, EVK, EVFD, ↓reduceIte, Nat.reduceEqDiff, Nat.reduceAdd, Nat.reduceSub, Nat.reduceMul, Nat.reduceLT, Nat.reduceLeDiff, reduceCtorEq, Int.reduceToNat, Int.reduceLT, Int.reduceLE, Int.reduceAdd, Int.reduceSub, Int.reduceMul, Int.reduceNeg, Int.reduceEq, Nat.reduceMod, forall_eq_or_imp, forall_eq, forall_const, cond_true, cond_false, decide_true, decide_false, true_imp_iff, implies_true, Int.cast_ofNat_Int, forall_eq']
  simp only [↓EVP0, EVQ0, EVQ1, EVQ2, EVQ3, EVQ4, EVA, EVK, EVFD, ↓reduceIte, Nat.reduceEqDiff, Nat.reduceAdd, Nat.reduceSub, Nat.reduceMul, Nat.reduceLT, Nat.reduceLeDiff, reduceCtorEq, Int.reduceToNat, Int.reduceLT, Int.reduceLE, Int.reduceAdd, Int.reduceSub, Int.reduceMul, Int.reduceNeg, Int.reduceEq, Nat.reduceMod, forall_eq_or_imp, forall_eq, forall_const, cond_true, cond_false, decide_true, decide_false, true_imp_iff, implies_true, Int.cast_ofNat_Int, forall_eq']
  rfl
end Go.Proofs.YtdfiicpikcdokaaDoor
namespace Go.Proofs.YtdfiicpikcdokaaDoor
set_option linter.unusedSimpArgs false
set_option linter.unusedVariables false
open Go.ChangeShapes Go.WideShapes Go.ChangeAt Go.RowKit

theorem card_paramsDemandValid (fn : Func) (h : fn.params.toList.all (fun t => !Tryd.prog.wantsStandIn t) = true) (j : Nat) (t : TypeId) (ht : fn.params[j]? = some t) : Tryd.prog.wantsStandIn t = false := by
  have := List.all_eq_true.1 h t (by rw [← Array.getElem?_toList] at ht; exact List.mem_of_getElem? ht)
  simpa using this
theorem law_demandValid (lvs : List LV) (h : fitAll Tryd.prog Tryd.f3.params.toList lvs) : Ev Tryd.prog 3 lvs (.sc (.bool true)) := by
  rw [Tryd.params3] at h
  obtain ⟨a0, l0, rfl, g0, h⟩ := all1 h
  obtain rfl := all0 h
  obtain ⟨p, ip, hp⟩ := arg_net g0
  exact ev_im (bs := [netV p]) ⟨ip, trivial⟩ (ev_lawValid33 p hp)
set_option maxRecDepth 100000 in
theorem lifted_demandValid (os : Os) (started : os.Started) (H : Type) (enc : TypeId × Value → H) :
    ReturnsInHanded {} Tryd.checked os 3 .any (fun w args => (Rows.demandValidSpec.pre enc Tryd.prog Tryd.f3 [] false w args ∧ laidMetH Tryd.prog Rows.demandValidRow.laid w) ∧ sizedMet enc Tryd.prog Tryd.f3 (OpenSpec.ofChange Rows.demandValidSpec) false w args) (Rows.demandValidSpec.post enc Tryd.prog Tryd.f3 false true false false) := by
  refine law_liftedL (C := Tryd.checked) (tb := 4) Rows.demandValidRow.laid Tryd.own' started Tryd.laidOut' (by kernel_rfl) Tryd.func3
    (ChangeSpec.witness_shaped (enc := enc) (C := Tryd.checked) (os := os) (X := fun w _ => laidMetH Tryd.prog Rows.demandValidRow.laid w) false (World.laidAll Tryd.prog os Rows.demandValidRow.laid) #[.agg #[.slice none 0 0, .slice none 0 0]] 8 (World.laidAll_os _ _ _)
      (World.shaped_of_ZipB (by kernel_rfl) (by kernel_rfl)) (by kernel_rfl) (by kernel_rfl) (by kernel_rfl)
      (by rw [MakeChecks.laidMetH_plain _ _ _ (by kernel_rfl)]; exact laidMet_laidAll _ (by kernel_rfl) (by kernel_rfl)))
    (by kernel_rfl) Tryd.underlying4 rfl (fun ds hd => ?_) (by kernel_rfl) (fun _ _ hh h => h.of_heap hh) (fun _ _ _ => trivial) law_demandValid
  have hd : ds.length = 1 := hd
  match ds, hd with
  | [d1], _ => exact ⟨rfl, rfl, rfl⟩
theorem demandValid_holds : Rows.DemandValidSaid :=
  OpenClaim.holds_of_wide 3 Tryd.f3 rfl rfl rfl rfl rfl rfl rfl ⟨rfl, rfl, rfl, rfl, rfl⟩ rfl rfl rfl rfl rfl (by kernel_rfl) Tryd.func3 (by kernel_rfl)
    (of_decide_eq_true (by kernel_rfl)) (by unfold Func.isWrapper; first | (rw [if_pos (by decide +kernel)]; kernel_rfl) | (rw [if_neg (by decide +kernel)]; exact ⟨rfl, rfl⟩))
    (fun os started H enc _ => lifted_demandValid os started H enc)
theorem demandValid_card : Rows.DemandValidCardSaid :=
  Claim7.holds_tied_plain_at .later [] Rows.demandValidCard.laidKinds true Rows.demandValidCard.stood.harness false
    demandValid_holds (fun _ h => by cases h) (by kernel_rfl) (fun _ h => by cases h) demandValid_row_tie rfl ⟨rfl, rfl⟩ (by kernel_rfl) rfl
    (fun f fn hf hfn => by
      obtain rfl : f = 3 := Option.some.inj ((show Tryd.prog.funcNamed Rows.demandValidRow.func = some 3 by kernel_rfl).symm.trans hf) |>.symm
      obtain rfl : fn = Tryd.f3 := (Option.some.inj (Tryd.func3.symm.trans hfn)).symm
      exact ⟨by kernel_rfl, fun j t ht => card_paramsDemandValid Tryd.f3 (by kernel_rfl) j t ht⟩)
    (by kernel_rfl)
end Go.Proofs.YtdfiicpikcdokaaDoor
