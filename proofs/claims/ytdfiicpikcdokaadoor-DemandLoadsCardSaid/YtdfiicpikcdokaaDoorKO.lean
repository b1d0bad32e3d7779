/- Chapter 33: a net is valid exactly if the reference says so; Chapter 33: loads of small rates are no error, and are the sums of the reference; Chapter 33: the loads, feasibility, and which links are full, are those of the reference; For every net, all rates and every link the loads, feasibility and which links are full are those of the reference. Conditions: none. -/
import Derived.Test.YtdfiicpikcdokaaDoorMG
import Derived.Test.YtdfiicpikcdokaaDoorTie
import Derived.Test.YtdfiicpikcdokaaDoorCards
import Derived.SevenTiedAt
import Derived.Stop.Joined
namespace Go.Proofs.YtdfiicpikcdokaaDoor
set_option linter.unusedSimpArgs false
set_option linter.unusedVariables false
open Go.RowKit
set_option maxRecDepth 20000

theorem rtF0 (x : Rt) : rtL x = [.sc (.int .i64 x.n), .sc (.int .i64 x.d)] := rfl
theorem flF0 (x : Fl) : flL x = [.rsl 1 x.links.length (intsF x.links), .sc (.bool x.bnd), .sc (.int .i64 x.dem.n), .sc (.int .i64 x.dem.d)] := rfl
theorem ev_fits33 (r : Rt) : Ev Tryd.prog 29 [ratV r] (.sc (.bool (vldR r && decide (0 ≤ r.n)))) := by
  have h1 := ev_rvalid r
  unfold ratV at *
  refine ev_fn Tryd.func29 comp29 (show 1 ≤ Tryd.f29.ntmps by decide) ?_; unfold cf29 rf29; simp only [↓EVP0, EVQ0, EVQ1, EVQ2, EVQ3, EVQ4, EVA, EVK, EVFD, ↓reduceIte, Nat.reduceEqDiff, Nat.reduceAdd, Nat.reduceSub, Nat.reduceMul, Nat.reduceLT, Nat.reduceLeDiff, reduceCtorEq, Int.reduceToNat, Int.reduceLT, Int.reduceLE, Int.reduceAdd, Int.reduceSub, Int.reduceMul, Int.reduceNeg, Int.reduceEq, Nat.reduceMod, forall_eq_or_imp, forall_eq, forall_const, cond_true, cond_false, decide_true, decide_false, true_imp_iff, implies_true, Int.cast_ofNat_Int, forall_eq']
  refine callK_ro (h1) ?_ ?_
  · simp only [↓EVP0, EVQ0, EVQ1, EVQ2, EVQ3, EVQ4, EVA, EVK, EVFD, ↓reduceIte, Nat.reduceEqDiff, Nat.reduceAdd, Nat.reduceSub, Nat.reduceMul, Nat.reduceLT, Nat.reduceLeDiff, reduceCtorEq, Int.reduceToNat, Int.reduceLT, Int.reduceLE, Int.reduceAdd, Int.reduceSub, Int.reduceMul, Int.reduceNeg, Int.reduceEq, Nat.reduceMod, forall_eq_or_imp, forall_eq, forall_const, cond_true, cond_false, decide_true, decide_false, true_imp_iff, implies_true, Int.cast_ofNat_Int, forall_eq']
  simp only [↓EVP0, EVQ0, EVQ1, EVQ2, EVQ3, EVQ4, EVA, EVK, EVFD, ↓reduceIte, Nat.reduceEqDiff, Nat.reduceAdd, Nat.reduceSub, Nat.reduceMul, Nat.reduceLT, Nat.reduceLeDiff, reduceCtorEq, Int.reduceToNat, Int.reduceLT, Int.reduceLE, Int.reduceAdd, Int.reduceSub, Int.reduceMul, Int.reduceNeg, Int.reduceEq, Nat.reduceMod, forall_eq_or_imp, forall_eq, forall_const, cond_true, cond_false, decide_true, decide_false, true_imp_iff, implies_true, Int.cast_ofNat_Int, forall_eq']
  cases vldR r <;> rfl
theorem apF_rt {l : List Rt} {m i : Nat} (h : i < m) : apF 2 (rtsF l) m i = rtsF l i := apF_get (z := 2) (g := rtsF l) (fun _ => rfl) h
theorem apF_fl {l : List Fl} {m i : Nat} (h : i < m) : apF 4 (flsF l) m i = flsF l i := apF_get (z := 4) (g := flsF l) (fun _ => rfl) h
theorem bs_allF {n : Nat} {b c d : Value} {m : Nat} {f : Nat → List LV} : ∀ i, i < 1 → allC n (List.take 4 (List.take 4 (List.drop (i * 4) [LV.rsl 1 m f, LV.sc b, LV.sc c, LV.sc d]))) := by
  intro i hi
  rw [show i = 0 by omega]
  exact ⟨trivial, trivial, trivial, trivial, trivial⟩
theorem ap_allR {n : Nat} {l : List Rt} {m : Nat} : ∀ i, i < m → allC n (List.take 2 (apF 2 (rtsF l) m i)) := by
  intro i hi
  rw [apF_rt hi]
  exact ⟨trivial, trivial, trivial⟩
theorem ap_allF {n : Nat} {l : List Fl} {m : Nat} : ∀ i, i < m → allC n (List.take 4 (apF 4 (flsF l) m i)) := by
  intro i hi
  rw [apF_fl hi]
  exact ⟨trivial, trivial, trivial, trivial, trivial⟩
theorem ev_plain33 (n : Nt) (h40 : n.caps.length ≤ 40) (hf40 : n.fls.length ≤ 40) : Ev Tryd.prog 12 [netV n] (netV n) := by
  unfold netV
  refine ev_fn Tryd.func12 comp12 (show 1 ≤ Tryd.f12.ntmps by decide) ?_; unfold cf12 rf12; simp only [↓EVP0, EVQ0, EVQ1, EVQ2, EVQ3, EVQ4, EVA, EVK, EVFD, ↓reduceIte, Nat.reduceEqDiff, Nat.reduceAdd, Nat.reduceSub, Nat.reduceMul, Nat.reduceLT, Nat.reduceLeDiff, reduceCtorEq, Int.reduceToNat, Int.reduceLT, Int.reduceLE, Int.reduceAdd, Int.reduceSub, Int.reduceMul, Int.reduceNeg, Int.reduceEq, Nat.reduceMod, forall_eq_or_imp, forall_eq, forall_const, cond_true, cond_false, decide_true, decide_false, true_imp_iff, implies_true, Int.cast_ofNat_Int, forall_eq']
  intro _
  refine lwp_for (α := Unit) n.caps.length (fun i _ => True) (fun i _ => [(1, .ptr 0 0 0 0 0), (2, .ptr 1 0 0 0 0), (3, .ptr 2 0 0 0 0), (9, .rsl 2 n.caps.length (rtsF n.caps)), (10, .sc (.int .i64 n.caps.length)), (11, .sc (.int .i64 i))])
    (fun i _ => if i = 0 then [(0, .box [.rsl 2 n.caps.length (rtsF n.caps), .rsl 4 n.fls.length (flsF n.fls)]), (0, .box [.nsl, .nsl]), (0, .box [.nsl, .nsl])]
      else [(0, .box [.rsl 2 n.caps.length (rtsF n.caps), .rsl 4 n.fls.length (flsF n.fls)]), (0, .box [.nsl, .nsl]), (0, .box [.sl 5 (i - 1) 2 0 i, .nsl]), (0, .box (rtsF n.caps 0)), (0, .row 2 1 (fun i => List.take 2 (List.drop (i * 2) (rtsF n.caps 0)))), (i - 1, .row 2 i (apF 2 (rtsF n.caps) i))]) () trivial ?_ (fun _ _ => Nat.zero_le _) ?_
  · simp only [if_true]
    simp only [↓EVP0, EVQ0, EVQ1, EVQ2, EVQ3, EVQ4, EVA, EVK, EVFD, ↓reduceIte, Nat.reduceEqDiff, Nat.reduceAdd, Nat.reduceSub, Nat.reduceMul, Nat.reduceLT, Nat.reduceLeDiff, reduceCtorEq, Int.reduceToNat, Int.reduceLT, Int.reduceLE, Int.reduceAdd, Int.reduceSub, Int.reduceMul, Int.reduceNeg, Int.reduceEq, Nat.reduceMod, forall_eq_or_imp, forall_eq, forall_const, cond_true, cond_false, decide_true, decide_false, true_imp_iff, implies_true, Int.cast_ofNat_Int, forall_eq']
  intro m _ hi _
  cases m with
  | zero =>
    simp only [if_true]
    unfold lb12_1
    simp only [↓EVP0, EVQ0, EVQ1, EVQ2, EVQ3, EVQ4, EVA, EVK, EVFD, ↓reduceIte, Nat.reduceEqDiff, Nat.reduceAdd, Nat.reduceSub, Nat.reduceMul, Nat.reduceLT, Nat.reduceLeDiff, reduceCtorEq, Int.reduceToNat, Int.reduceLT, Int.reduceLE, Int.reduceAdd, Int.reduceSub, Int.reduceMul, Int.reduceNeg, Int.reduceEq, Nat.reduceMod, forall_eq_or_imp, forall_eq, forall_const, cond_true, cond_false, decide_true, decide_false, true_imp_iff, implies_true, Int.cast_ofNat_Int, forall_eq']
    refine ⟨fun hg2 => ?_, fun hg2 => ?_⟩
    · have hi2 : 0 < n.caps.length := by have := of_decide_eq_true hg2; omega
      exact ⟨by omega, bsF_len rfl, by unfold appRoom; omega, by unfold In64; omega, hi2, (), bs_all, rfl, ap_allR⟩
    · have hcl : n.caps.length = 0 := by have := of_decide_eq_false hg2; omega
      intro _
      refine lwp_for (α := Unit) n.fls.length (fun k _ => True) (fun k _ => [(2, .ptr 1 0 0 0 0), (3, .ptr 2 0 0 0 0), (23, .rsl 4 n.fls.length (flsF n.fls)), (24, .sc (.int .i64 n.fls.length)), (25, .sc (.int .i64 k))])
        (fun k _ => if k = 0 then [(0, .box [.rsl 2 n.caps.length (rtsF n.caps), .rsl 4 n.fls.length (flsF n.fls)]), (0, .box [.nsl, .nsl]), (0, .box [.nsl, .nsl])] else [(0, .box [.rsl 2 n.caps.length (rtsF n.caps), .rsl 4 n.fls.length (flsF n.fls)]), (0, .box [.nsl, .nsl]), (0, .box [.nsl, .sl 5 (k - 1) 4 0 k]), (0, .box (flsF n.fls 0)), (0, .row 4 1 (fun i => List.take 4 (List.drop (i * 4) (flsF n.fls 0)))), (k - 1, .row 4 k (apF 4 (flsF n.fls) k))]) () trivial ?_ (fun _ _ => Nat.zero_le _) ?_
      · simp only [if_true]
        simp only [↓EVP0, EVQ0, EVQ1, EVQ2, EVQ3, EVQ4, EVA, EVK, EVFD, ↓reduceIte, Nat.reduceEqDiff, Nat.reduceAdd, Nat.reduceSub, Nat.reduceMul, Nat.reduceLT, Nat.reduceLeDiff, reduceCtorEq, Int.reduceToNat, Int.reduceLT, Int.reduceLE, Int.reduceAdd, Int.reduceSub, Int.reduceMul, Int.reduceNeg, Int.reduceEq, Nat.reduceMod, forall_eq_or_imp, forall_eq, forall_const, cond_true, cond_false, decide_true, decide_false, true_imp_iff, implies_true, Int.cast_ofNat_Int, forall_eq']
      intro k _ hk _
      cases k with
      | zero =>
        simp only [if_true]
        unfold lb12_0
        simp only [↓EVP0, EVQ0, EVQ1, EVQ2, EVQ3, EVQ4, EVA, EVK, EVFD, ↓reduceIte, Nat.reduceEqDiff, Nat.reduceAdd, Nat.reduceSub, Nat.reduceMul, Nat.reduceLT, Nat.reduceLeDiff, reduceCtorEq, Int.reduceToNat, Int.reduceLT, Int.reduceLE, Int.reduceAdd, Int.reduceSub, Int.reduceMul, Int.reduceNeg, Int.reduceEq, Nat.reduceMod, forall_eq_or_imp, forall_eq, forall_const, cond_true, cond_false, decide_true, decide_false, true_imp_iff, implies_true, Int.cast_ofNat_Int, forall_eq']
        refine ⟨fun hg4 => ?_, fun hg4 => ?_⟩
        · have hk2 : 0 < n.fls.length := by have := of_decide_eq_true hg4; omega
          exact ⟨by omega, bsF_len rfl, by unfold appRoom; omega, by unfold In64; omega, hk2, (), bs_allF, rfl, ap_allF⟩
        · have hf0 : n.fls.length = 0 := by have := of_decide_eq_false hg4; omega
          exact ⟨hcl, hf0⟩
      | succ k =>
        simp only [show ¬ k + 1 = 0 by omega, if_false]
        unfold lb12_0
        simp only [↓EVP0, EVQ0, EVQ1, EVQ2, EVQ3, EVQ4, EVA, EVK, EVFD, ↓reduceIte, Nat.reduceEqDiff, Nat.reduceAdd, Nat.reduceSub, Nat.reduceMul, Nat.reduceLT, Nat.reduceLeDiff, reduceCtorEq, Int.reduceToNat, Int.reduceLT, Int.reduceLE, Int.reduceAdd, Int.reduceSub, Int.reduceMul, Int.reduceNeg, Int.reduceEq, Nat.reduceMod, forall_eq_or_imp, forall_eq, forall_const, cond_true, cond_false, decide_true, decide_false, true_imp_iff, implies_true, Int.cast_ofNat_Int, forall_eq']
        have ecast : ((k : Int) + 1).toNat = k + 1 := by omega
        rw [ecast]
        refine ⟨fun hg4 => ?_, fun hg4 => ?_⟩
        · have hk2 : k + 1 < n.fls.length := by have := of_decide_eq_true hg4; omega
          exact ⟨⟨by omega, by omega⟩, bsF_len rfl, ⟨Nat.le_refl _, fun k hk => by rw [apF_fl hk]; rfl⟩, by unfold appRoom; omega, by unfold In64; omega, hk2, (), by rw [show k + 1 - 1 + 1 = k + 1 + 1 - 1 by omega], bs_allF, ⟨by omega, rfl⟩, ap_allF⟩
        · have hf0 : n.fls.length = k + 1 := by have := of_decide_eq_false hg4; omega
          exact ⟨hcl, hf0, ⟨Nat.le_refl _, fun i hi => by rw [apF_fl hi]; rfl⟩, fun i hi => apF_fl hi⟩
  | succ m =>
    simp only [show ¬ m + 1 = 0 by omega, if_false]
    unfold lb12_1
    simp only [↓EVP0, EVQ0, EVQ1, EVQ2, EVQ3, EVQ4, EVA, EVK, EVFD, ↓reduceIte, Nat.reduceEqDiff, Nat.reduceAdd, Nat.reduceSub, Nat.reduceMul, Nat.reduceLT, Nat.reduceLeDiff, reduceCtorEq, Int.reduceToNat, Int.reduceLT, Int.reduceLE, Int.reduceAdd, Int.reduceSub, Int.reduceMul, Int.reduceNeg, Int.reduceEq, Nat.reduceMod, forall_eq_or_imp, forall_eq, forall_const, cond_true, cond_false, decide_true, decide_false, true_imp_iff, implies_true, Int.cast_ofNat_Int, forall_eq']
    have ecast : ((m : Int) + 1).toNat = m + 1 := by omega
    rw [ecast]
    refine ⟨fun hg2 => ?_, fun hg2 => ?_⟩
    · have hi2 : m + 1 < n.caps.length := by have := of_decide_eq_true hg2; omega
      exact ⟨⟨by omega, by omega⟩, bsF_len rfl, ⟨Nat.le_refl _, fun k hk => by rw [apF_rt hk]; rfl⟩, by unfold appRoom; omega, by unfold In64; omega, hi2, (), by rw [show m + 1 - 1 + 1 = m + 1 + 1 - 1 by omega], bs_all, ⟨by omega, rfl⟩, ap_allR⟩
    · have hcl : n.caps.length = m + 1 := by have := of_decide_eq_false hg2; omega
      rw [show m + 1 - 1 = m by omega]
      intro _
      refine lwp_for (α := Unit) n.fls.length (fun k _ => True) (fun k _ => [(2, .ptr 1 0 0 0 0), (3, .ptr 2 0 0 0 0), (23, .rsl 4 n.fls.length (flsF n.fls)), (24, .sc (.int .i64 n.fls.length)), (25, .sc (.int .i64 k))])
        (fun k _ => if k = 0 then [(0, .box [.rsl 2 n.caps.length (rtsF n.caps), .rsl 4 n.fls.length (flsF n.fls)]), (0, .box [.nsl, .nsl]), (0, .box [.sl 5 m 2 0 (m + 1), .nsl]), (0, .box (rtsF n.caps 0)), (0, .row 2 1 (fun i => List.take 2 (List.drop (i * 2) (rtsF n.caps 0)))), (m, .row 2 (m + 1) (apF 2 (rtsF n.caps) (m + 1)))] else [(0, .box [.rsl 2 n.caps.length (rtsF n.caps), .rsl 4 n.fls.length (flsF n.fls)]), (0, .box [.nsl, .nsl]), (0, .box [.sl 5 m 2 0 (m + 1), .sl 8 (k - 1) 4 0 k]), (0, .box (rtsF n.caps 0)), (0, .row 2 1 (fun i => List.take 2 (List.drop (i * 2) (rtsF n.caps 0)))), (m, .row 2 (m + 1) (apF 2 (rtsF n.caps) (m + 1))), (0, .box (flsF n.fls 0)), (0, .row 4 1 (fun i => List.take 4 (List.drop (i * 4) (flsF n.fls 0)))), (k - 1, .row 4 k (apF 4 (flsF n.fls) k))]) () trivial ?_ (fun _ _ => Nat.zero_le _) ?_
      · simp only [if_true]
        simp only [↓EVP0, EVQ0, EVQ1, EVQ2, EVQ3, EVQ4, EVA, EVK, EVFD, ↓reduceIte, Nat.reduceEqDiff, Nat.reduceAdd, Nat.reduceSub, Nat.reduceMul, Nat.reduceLT, Nat.reduceLeDiff, reduceCtorEq, Int.reduceToNat, Int.reduceLT, Int.reduceLE, Int.reduceAdd, Int.reduceSub, Int.reduceMul, Int.reduceNeg, Int.reduceEq, Nat.reduceMod, forall_eq_or_imp, forall_eq, forall_const, cond_true, cond_false, decide_true, decide_false, true_imp_iff, implies_true, Int.cast_ofNat_Int, forall_eq']
        exact ⟨bs_all, ap_allR⟩
      intro k _ hk _
      cases k with
      | zero =>
        simp only [if_true]
        unfold lb12_0
        simp only [↓EVP0, EVQ0, EVQ1, EVQ2, EVQ3, EVQ4, EVA, EVK, EVFD, ↓reduceIte, Nat.reduceEqDiff, Nat.reduceAdd, Nat.reduceSub, Nat.reduceMul, Nat.reduceLT, Nat.reduceLeDiff, reduceCtorEq, Int.reduceToNat, Int.reduceLT, Int.reduceLE, Int.reduceAdd, Int.reduceSub, Int.reduceMul, Int.reduceNeg, Int.reduceEq, Nat.reduceMod, forall_eq_or_imp, forall_eq, forall_const, cond_true, cond_false, decide_true, decide_false, true_imp_iff, implies_true, Int.cast_ofNat_Int, forall_eq']
        refine ⟨fun hg4 => ?_, fun hg4 => ?_⟩
        · have hk2 : 0 < n.fls.length := by have := of_decide_eq_true hg4; omega
          exact ⟨by omega, bsF_len rfl, by unfold appRoom; omega, by unfold In64; omega, hk2, (), bs_all, ap_allR, bs_allF, rfl, ap_allF⟩
        · have hf0 : n.fls.length = 0 := by have := of_decide_eq_false hg4; omega
          exact ⟨⟨hcl, ⟨Nat.le_refl _, fun i hi => by rw [apF_rt hi]; rfl⟩, fun i hi => apF_rt hi⟩, hf0⟩
      | succ k =>
        simp only [show ¬ k + 1 = 0 by omega, if_false]
        unfold lb12_0
        simp only [↓EVP0, EVQ0, EVQ1, EVQ2, EVQ3, EVQ4, EVA, EVK, EVFD, ↓reduceIte, Nat.reduceEqDiff, Nat.reduceAdd, Nat.reduceSub, Nat.reduceMul, Nat.reduceLT, Nat.reduceLeDiff, reduceCtorEq, Int.reduceToNat, Int.reduceLT, Int.reduceLE, Int.reduceAdd, Int.reduceSub, Int.reduceMul, Int.reduceNeg, Int.reduceEq, Nat.reduceMod, forall_eq_or_imp, forall_eq, forall_const, cond_true, cond_false, decide_true, decide_false, true_imp_iff, implies_true, Int.cast_ofNat_Int, forall_eq']
        have ecast : ((k : Int) + 1).toNat = k + 1 := by omega
        rw [ecast]
        refine ⟨fun hg4 => ?_, fun hg4 => ?_⟩
        · have hk2 : k + 1 < n.fls.length := by have := of_decide_eq_true hg4; omega
          exact ⟨⟨by omega, by omega⟩, bsF_len rfl, ⟨Nat.le_refl _, fun k hk => by rw [apF_fl hk]; rfl⟩, by unfold appRoom; omega, by unfold In64; omega, hk2, (), by rw [show k + 1 - 1 + 1 = k + 1 + 1 - 1 by omega], bs_all, ap_allR, bs_allF, ⟨by omega, rfl⟩, ap_allF⟩
        · have hf0 : n.fls.length = k + 1 := by have := of_decide_eq_false hg4; omega
          exact ⟨⟨hcl, ⟨Nat.le_refl _, fun i hi => by rw [apF_rt hi]; rfl⟩, fun i hi => apF_rt hi⟩, hf0, ⟨Nat.le_refl _, fun i hi => by rw [apF_fl hi]; rfl⟩, fun i hi => apF_fl hi⟩
-- END OF PLAIN
def capB2 (c : Rt) : Bool := (vldR c && decide (0 ≤ c.n)) && !(decide (1000 < (fullR c).n.tdiv (fullR c).d) || (decide ((fullR c).n.tdiv (fullR c).d = 1000) && !decide ((fullR c).n.tmod (fullR c).d = 0)))
theorem capB2_eq (c : Rt) : capB2 c = capB c := by
  unfold capB2 capB
  cases hv : vldR c
  · rfl
  by_cases h0 : 0 ≤ c.n
  · rw [decide_eq_true h0, full_nrm hv, cmpR_E hv (int_vld (n := 1000) (by decide)).1, (int_vld (n := 1000) (by decide)).2]
    have hl := (vld_low hv).1
    have hn : 0 ≤ (nrmR c).n := by unfold nrmR; split <;> exact h0
    generalize nrmR c = C at *
    rw [Int.tdiv_eq_ediv_of_nonneg hn, Int.tmod_eq_emod_of_nonneg hn]
    have e1 := Int.mul_ediv_add_emod C.n C.d
    have e2 := Int.emod_nonneg C.n (show C.d ≠ 0 by omega)
    have e3 := Int.emod_lt_of_pos C.n (show 0 < C.d by omega)
    show (true && !_) = (true && (true && decide (cmpI (C.n * 1) (1000 * C.d) ≤ 0)))
    have key : cmpI (C.n * 1) (1000 * C.d) ≤ 0 ↔ C.n ≤ 1000 * C.d := by rw [Int.mul_one]; exact cmpI_le
    rw [Bool.true_and, Bool.true_and, Bool.true_and]
    by_cases h : C.n ≤ 1000 * C.d
    · rw [decide_eq_true (key.2 h)]
      have hq : ¬ 1000 < C.n / C.d := fun hq => by
        have := Int.mul_le_mul_of_nonneg_left (show 1001 ≤ C.n / C.d by omega) (show 0 ≤ C.d by omega)
        omega
      rw [decide_eq_false hq]
      by_cases h5 : C.n / C.d = 1000
      · rw [h5] at e1
        rw [decide_eq_true (show C.n % C.d = 0 by omega)]; simp
      · rw [decide_eq_false h5]; rfl
    · rw [decide_eq_false (fun h2 => h (key.1 h2))]
      by_cases hq : 1000 < C.n / C.d
      · rw [decide_eq_true hq]; rfl
      · have h5 : C.n / C.d = 1000 := by
          have h6 : ¬ C.n / C.d ≤ 999 := fun h6 => by
            have := Int.mul_le_mul_of_nonneg_left h6 (show 0 ≤ C.d by omega)
            omega
          omega
        rw [h5] at e1
        rw [h5, decide_eq_false (show ¬ C.n % C.d = 0 by omega)]; rfl
  · rw [decide_eq_false h0]; rfl
def flB0 (f : Fl) : Bool := decide (f.links.length ≠ 0) && (vldR f.dem && (decide (0 ≤ f.dem.n) && (f.bnd || decide (f.dem.n = 0))))
theorem tc_yes {l : List Int} {j k : Nat} {v : Int} (hj : j < k) (hk : k ≤ l.length) (h : l.getD j 0 = v) : (l.take k).contains v = true := by
  rw [List.contains_iff_mem, ← h, List.mem_take_iff_getElem]
  refine ⟨j, by omega, ?_⟩
  rw [List.getD_eq_getElem?_getD, List.getElem?_eq_getElem (by omega)]; rfl
theorem tc_no {l : List Int} {k : Nat} {v : Int} (h : ∀ j, j < k → l.getD j 0 ≠ v) : (l.take k).contains v = false := by
  rw [Bool.eq_false_iff]
  intro hc
  rw [List.contains_iff_mem, List.mem_take_iff_getElem] at hc
  obtain ⟨j, hj, e⟩ := hc
  refine h j (by omega) ?_
  rw [List.getD_eq_getElem?_getD, List.getElem?_eq_getElem (by omega)]; exact e
theorem notT {x : Bool} (h : (!x) = true) : x = false := by cases x <;> simp_all
theorem notF {x : Bool} (h : (!x) = false) : x = true := by cases x <;> simp_all
theorem flB0_c (l : Int) (v x b z : Bool) : (bif bif decide (l = 0) then true else !(v && x) then true else bif !b then !z else false) = !(!decide (l = 0) && (v && (x && (b || z)))) := by
  cases decide (l = 0) <;> cases v <;> cases x <;> cases b <;> cases z <;> rfl
theorem flB0_E (f : Fl) : flB0 f = (!decide ((f.links.length : Int) = 0) && (vldR f.dem && (decide (0 ≤ f.dem.n) && (f.bnd || decide (f.dem.n = 0))))) := by
  unfold flB0
  rw [← decide_not, decide_eq_decide.2 (show (f.links.length ≠ 0 ↔ ¬ (f.links.length : Int) = 0) by omega)]
theorem capB2_g (c : Rt) (h : (vldR c && decide (0 ≤ c.n)) = true) : (fullR c).d ≠ 0 ∧ In64 ((fullR c).n.tdiv (fullR c).d) := by
  simp only [Bool.and_eq_true, decide_eq_true_eq] at h
  obtain ⟨hv, h0⟩ := h
  rw [full_nrm hv]
  have hl := vld_low hv
  have hn : 0 ≤ (nrmR c).n := by unfold nrmR; split <;> exact h0
  refine ⟨by have := hl.1; omega, ?_⟩
  rw [Int.tdiv_eq_ediv_of_nonneg hn]
  have h1 := Int.ediv_le_self (nrmR c).d hn
  have h2 := Int.ediv_nonneg hn (show 0 ≤ (nrmR c).d by have := hl.1; omega)
  have h3 := hl.2.2.2.1
  unfold In64; omega
theorem capB2_c (a x y z : Bool) : (bif bif !a then true else x then true else bif y then !z else false) = !(a && !(x || (y && !z))) := by
  cases a <;> cases x <;> cases y <;> cases z <;> rfl
theorem flB_two (nc : Nat) (f : Fl) : flB nc f = (flB0 f && (List.range f.links.length).all (linkB nc f.links)) := by
  unfold flB flB0
  cases decide (f.links.length ≠ 0) <;> cases vldR f.dem <;> cases decide (0 ≤ f.dem.n) <;> cases f.bnd <;> cases decide (f.dem.n = 0) <;> cases (List.range f.links.length).all (linkB nc f.links) <;> rfl
theorem ev_refvalid (n : Nt) (h40 : n.caps.length ≤ 40) (hf40 : n.fls.length ≤ 40) : Ev Tryd.prog 11 [netV n] (.sc (.bool (vldN n))) := by
  unfold netV
  refine ev_fn Tryd.func11 comp11 (show 1 ≤ Tryd.f11.ntmps by decide) ?_; unfold cf11 rf11; simp only [↓EVP0, EVQ0, EVQ1, EVQ2, EVQ3, EVQ4, EVA, EVK, EVFD, ↓reduceIte, Nat.reduceEqDiff, Nat.reduceAdd, Nat.reduceSub, Nat.reduceMul, Nat.reduceLT, Nat.reduceLeDiff, reduceCtorEq, Int.reduceToNat, Int.reduceLT, Int.reduceLE, Int.reduceAdd, Int.reduceSub, Int.reduceMul, Int.reduceNeg, Int.reduceEq, Nat.reduceMod, forall_eq_or_imp, forall_eq, forall_const, cond_true, cond_false, decide_true, decide_false, true_imp_iff, implies_true, Int.cast_ofNat_Int, forall_eq']
  intro hc1
  refine ⟨fun hg => ?_, fun hg => ?_⟩
  · unfold vldN
    cases e1 : decide (n.caps.length ≤ 32)
    · rfl
    · cases e2 : decide (n.fls.length ≤ 32)
      · rfl
      · have e1 := of_decide_eq_true e1
        have e2 := of_decide_eq_true e2
        rw [decide_eq_false (show ¬ (32 : Int) < n.caps.length by omega), decide_eq_false (show ¬ (32 : Int) < n.fls.length by omega)] at hg
        simp at hg
  have e1 : n.caps.length ≤ 32 := by
    rcases Nat.lt_or_ge 32 n.caps.length with h | h
    · rw [decide_eq_true (show (32 : Int) < n.caps.length by omega)] at hg; simp at hg
    · exact h
  have e2 : n.fls.length ≤ 32 := by
    rcases Nat.lt_or_ge 32 n.fls.length with h | h
    · rw [decide_eq_true (show (32 : Int) < n.fls.length by omega)] at hg; simp at hg
    · exact h
  refine lwp_for (α := Unit) n.caps.length (fun i _ => ∀ j, j < i → capB (n.caps.getD j default) = true) (fun i _ => [(1, .ptr 0 0 0 0 0), (3, .sc (.int .i64 i))])
    (fun i _ => [(0, .box [.rsl 2 n.caps.length (rtsF n.caps), .rsl 4 n.fls.length (flsF n.fls)])]) () (fun j hj => absurd hj (Nat.not_lt_zero _)) ?_ (fun _ _ => Nat.zero_le _) ?_
  · simp only [↓EVP0, EVQ0, EVQ1, EVQ2, EVQ3, EVQ4, EVA, EVK, EVFD, ↓reduceIte, Nat.reduceEqDiff, Nat.reduceAdd, Nat.reduceSub, Nat.reduceMul, Nat.reduceLT, Nat.reduceLeDiff, reduceCtorEq, Int.reduceToNat, Int.reduceLT, Int.reduceLE, Int.reduceAdd, Int.reduceSub, Int.reduceMul, Int.reduceNeg, Int.reduceEq, Nat.reduceMod, forall_eq_or_imp, forall_eq, forall_const, cond_true, cond_false, decide_true, decide_false, true_imp_iff, implies_true, Int.cast_ofNat_Int, forall_eq']
  intro i _ hi hx
  unfold lb11_3
  simp only [↓EVP0, EVQ0, EVQ1, EVQ2, EVQ3, EVQ4, EVA, EVK, EVFD, ↓reduceIte, Nat.reduceEqDiff, Nat.reduceAdd, Nat.reduceSub, Nat.reduceMul, Nat.reduceLT, Nat.reduceLeDiff, reduceCtorEq, Int.reduceToNat, Int.reduceLT, Int.reduceLE, Int.reduceAdd, Int.reduceSub, Int.reduceMul, Int.reduceNeg, Int.reduceEq, Nat.reduceMod, forall_eq_or_imp, forall_eq, forall_const, cond_true, cond_false, decide_true, decide_false, true_imp_iff, implies_true, Int.cast_ofNat_Int, forall_eq']
  intro _
  refine ⟨fun hg2 => ?_, fun hg2 => ?_⟩
  · have hi2 : i < n.caps.length := by have := of_decide_eq_true hg2; omega
    have h1 := ev_full (n.caps.getD i default)
    have h2 := ev_fits33 (n.caps.getD i default)
    unfold ratV at h1 h2
    refine ⟨⟨by omega, by omega⟩, ?_⟩
    refine callK_ro (h1) ?_ ?_
    · simp only [↓EVP0, EVQ0, EVQ1, EVQ2, EVQ3, EVQ4, EVA, EVK, EVFD, ↓reduceIte, Nat.reduceEqDiff, Nat.reduceAdd, Nat.reduceSub, Nat.reduceMul, Nat.reduceLT, Nat.reduceLeDiff, reduceCtorEq, Int.reduceToNat, Int.reduceLT, Int.reduceLE, Int.reduceAdd, Int.reduceSub, Int.reduceMul, Int.reduceNeg, Int.reduceEq, Nat.reduceMod, forall_eq_or_imp, forall_eq, forall_const, cond_true, cond_false, decide_true, decide_false, true_imp_iff, implies_true, Int.cast_ofNat_Int, forall_eq']
    simp only [↓EVP0, EVQ0, EVQ1, EVQ2, EVQ3, EVQ4, EVA, EVK, EVFD, ↓reduceIte, Nat.reduceEqDiff, Nat.reduceAdd, Nat.reduceSub, Nat.reduceMul, Nat.reduceLT, Nat.reduceLeDiff, reduceCtorEq, Int.reduceToNat, Int.reduceLT, Int.reduceLE, Int.reduceAdd, Int.reduceSub, Int.reduceMul, Int.reduceNeg, Int.reduceEq, Nat.reduceMod, forall_eq_or_imp, forall_eq, forall_const, cond_true, cond_false, decide_true, decide_false, true_imp_iff, implies_true, Int.cast_ofNat_Int, forall_eq']
    refine ⟨⟨by omega, by omega⟩, ?_⟩
    refine callK_ro (h2) ?_ ?_
    · simp only [↓EVP0, EVQ0, EVQ1, EVQ2, EVQ3, EVQ4, EVA, EVK, EVFD, ↓reduceIte, Nat.reduceEqDiff, Nat.reduceAdd, Nat.reduceSub, Nat.reduceMul, Nat.reduceLT, Nat.reduceLeDiff, reduceCtorEq, Int.reduceToNat, Int.reduceLT, Int.reduceLE, Int.reduceAdd, Int.reduceSub, Int.reduceMul, Int.reduceNeg, Int.reduceEq, Nat.reduceMod, forall_eq_or_imp, forall_eq, forall_const, cond_true, cond_false, decide_true, decide_false, true_imp_iff, implies_true, Int.cast_ofNat_Int, forall_eq']
    simp only [↓EVP0, EVQ0, EVQ1, EVQ2, EVQ3, EVQ4, EVA, EVK, EVFD, ↓reduceIte, Nat.reduceEqDiff, Nat.reduceAdd, Nat.reduceSub, Nat.reduceMul, Nat.reduceLT, Nat.reduceLeDiff, reduceCtorEq, Int.reduceToNat, Int.reduceLT, Int.reduceLE, Int.reduceAdd, Int.reduceSub, Int.reduceMul, Int.reduceNeg, Int.reduceEq, Nat.reduceMod, forall_eq_or_imp, forall_eq, forall_const, cond_true, cond_false, decide_true, decide_false, true_imp_iff, implies_true, Int.cast_ofNat_Int, forall_eq']
    have hgd := capB2_g (n.caps.getD i default)
    have hcap := capB2_eq (n.caps.getD i default)
    have hno := fun h => cap_no (n := n) hi2 h
    rw [← hcap] at hno
    have hsn := fun h : capB (n.caps.getD i default) = true => snoc_all hx h
    rw [← hcap] at hsn
    unfold capB2 at hno hsn
    generalize n.caps.getD i default = c at *
    have hA : ∀ x : Bool, (!bif !(vldR c && decide (0 ≤ c.n)) then true else x) = true → (vldR c && decide (0 ≤ c.n)) = true := by
      intro x h
      cases e : (vldR c && decide (0 ≤ c.n))
      · rw [e] at h; simp at h
      · rfl
    refine ⟨⟨fun h => (hgd h).1, fun h => (hgd h).2⟩, ⟨fun h => (hgd (hA _ h)).1, fun h => (hgd (hA _ h)).2⟩, fun h => (hgd (hA _ (Bool.and_eq_true _ _ ▸ h).1)).1, ?_⟩
    rw [capB2_c]
    refine ⟨fun h => hno (notT h), fun h => ⟨by unfold In64; omega, hi2, (), hsn (notF h)⟩⟩
  have hi2 : i = n.caps.length := by have := of_decide_eq_false hg2; omega
  subst hi2
  refine lwp_for (α := Unit) n.fls.length (fun i _ => ∀ j, j < i → flB n.caps.length (n.fls.getD j default) = true) (fun i _ => [(1, .ptr 0 0 0 0 0), (5, .sc (.int .i64 i))])
    (fun i _ => [(0, .box [.rsl 2 n.caps.length (rtsF n.caps), .rsl 4 n.fls.length (flsF n.fls)])]) () (fun j hj => absurd hj (Nat.not_lt_zero _)) ?_ (fun _ _ => Nat.zero_le _) ?_
  · simp only [↓EVP0, EVQ0, EVQ1, EVQ2, EVQ3, EVQ4, EVA, EVK, EVFD, ↓reduceIte, Nat.reduceEqDiff, Nat.reduceAdd, Nat.reduceSub, Nat.reduceMul, Nat.reduceLT, Nat.reduceLeDiff, reduceCtorEq, Int.reduceToNat, Int.reduceLT, Int.reduceLE, Int.reduceAdd, Int.reduceSub, Int.reduceMul, Int.reduceNeg, Int.reduceEq, Nat.reduceMod, forall_eq_or_imp, forall_eq, forall_const, cond_true, cond_false, decide_true, decide_false, true_imp_iff, implies_true, Int.cast_ofNat_Int, forall_eq']
  intro i _ hi hy
  unfold lb11_2
  simp only [↓EVP0, EVQ0, EVQ1, EVQ2, EVQ3, EVQ4, EVA, EVK, EVFD, ↓reduceIte, Nat.reduceEqDiff, Nat.reduceAdd, Nat.reduceSub, Nat.reduceMul, Nat.reduceLT, Nat.reduceLeDiff, reduceCtorEq, Int.reduceToNat, Int.reduceLT, Int.reduceLE, Int.reduceAdd, Int.reduceSub, Int.reduceMul, Int.reduceNeg, Int.reduceEq, Nat.reduceMod, forall_eq_or_imp, forall_eq, forall_const, cond_true, cond_false, decide_true, decide_false, true_imp_iff, implies_true, Int.cast_ofNat_Int, forall_eq']
  intro _
  refine ⟨fun hg2 => ?_, fun hg2 => ?_⟩
  · have hi2 : i < n.fls.length := by have := of_decide_eq_true hg2; omega
    have h2 := ev_fits33 (n.fls.getD i default).dem
    have hno := fun h => fl_no (n := n) hi2 h
    have hsn := fun h : flB n.caps.length (n.fls.getD i default) = true => snoc_all hy h
    unfold ratV at h2
    refine ⟨⟨by omega, by omega⟩, ?_⟩
    intro _
    (refine lops_ge_imp ?_; simp only [↓EVP0, EVQ0, EVQ1, EVQ2, EVQ3, EVQ4, EVA, EVK, EVFD, ↓reduceIte, Nat.reduceEqDiff, Nat.reduceAdd, Nat.reduceSub, Nat.reduceMul, Nat.reduceLT, Nat.reduceLeDiff, reduceCtorEq, Int.reduceToNat, Int.reduceLT, Int.reduceLE, Int.reduceAdd, Int.reduceSub, Int.reduceMul, Int.reduceNeg, Int.reduceEq, Nat.reduceMod, forall_eq_or_imp, forall_eq, forall_const, cond_true, cond_false, decide_true, decide_false, true_imp_iff, implies_true, Int.cast_ofNat_Int, forall_eq'])
    refine gCallK_ro _ (fun _ => h2) (fun _ => ?_) ?_
    · simp only [↓EVP0, EVQ0, EVQ1, EVQ2, EVQ3, EVQ4, EVA, EVK, EVFD, ↓reduceIte, Nat.reduceEqDiff, Nat.reduceAdd, Nat.reduceSub, Nat.reduceMul, Nat.reduceLT, Nat.reduceLeDiff, reduceCtorEq, Int.reduceToNat, Int.reduceLT, Int.reduceLE, Int.reduceAdd, Int.reduceSub, Int.reduceMul, Int.reduceNeg, Int.reduceEq, Nat.reduceMod, forall_eq_or_imp, forall_eq, forall_const, cond_true, cond_false, decide_true, decide_false, true_imp_iff, implies_true, Int.cast_ofNat_Int, forall_eq']
    simp only [↓EVP0, EVQ0, EVQ1, EVQ2, EVQ3, EVQ4, EVA, EVK, EVFD, ↓reduceIte, Nat.reduceEqDiff, Nat.reduceAdd, Nat.reduceSub, Nat.reduceMul, Nat.reduceLT, Nat.reduceLeDiff, reduceCtorEq, Int.reduceToNat, Int.reduceLT, Int.reduceLE, Int.reduceAdd, Int.reduceSub, Int.reduceMul, Int.reduceNeg, Int.reduceEq, Nat.reduceMod, forall_eq_or_imp, forall_eq, forall_const, cond_true, cond_false, decide_true, decide_false, true_imp_iff, implies_true, Int.cast_ofNat_Int, forall_eq']
    rw [flB0_c, ← flB0_E]
    rw [flB_two] at hno hsn
    generalize n.fls.getD i default = f at *
    refine ⟨fun h => hno (by rw [notT h]; rfl), fun h => ?_⟩
    rw [notF h, Bool.true_and] at hno hsn
    refine lwp_for (α := Unit) f.links.length (fun k _ => ∀ j, j < k → linkB n.caps.length f.links j = true) (fun k _ => [(1, .ptr 0 0 0 0 0), (5, .sc (.int .i64 i)), (6, .ptr 1 0 0 0 0), (7, .sc (.int .i64 k))])
      (fun k _ => [(0, .box [.rsl 2 n.caps.length (rtsF n.caps), .rsl 4 n.fls.length (flsF n.fls)]), (0, .box [.rsl 1 f.links.length (intsF f.links), .sc (.bool f.bnd), .sc (.int .i64 f.dem.n), .sc (.int .i64 f.dem.d)])]) () (fun j hj => absurd hj (Nat.not_lt_zero _)) ?_ (fun _ _ => Nat.zero_le _) ?_
    · simp only [↓EVP0, EVQ0, EVQ1, EVQ2, EVQ3, EVQ4, EVA, EVK, EVFD, ↓reduceIte, Nat.reduceEqDiff, Nat.reduceAdd, Nat.reduceSub, Nat.reduceMul, Nat.reduceLT, Nat.reduceLeDiff, reduceCtorEq, Int.reduceToNat, Int.reduceLT, Int.reduceLE, Int.reduceAdd, Int.reduceSub, Int.reduceMul, Int.reduceNeg, Int.reduceEq, Nat.reduceMod, forall_eq_or_imp, forall_eq, forall_const, cond_true, cond_false, decide_true, decide_false, true_imp_iff, implies_true, Int.cast_ofNat_Int, forall_eq']
    intro k _ hk hz
    unfold lb11_1
    simp only [↓EVP0, EVQ0, EVQ1, EVQ2, EVQ3, EVQ4, EVA, EVK, EVFD, ↓reduceIte, Nat.reduceEqDiff, Nat.reduceAdd, Nat.reduceSub, Nat.reduceMul, Nat.reduceLT, Nat.reduceLeDiff, reduceCtorEq, Int.reduceToNat, Int.reduceLT, Int.reduceLE, Int.reduceAdd, Int.reduceSub, Int.reduceMul, Int.reduceNeg, Int.reduceEq, Nat.reduceMod, forall_eq_or_imp, forall_eq, forall_const, cond_true, cond_false, decide_true, decide_false, true_imp_iff, implies_true, Int.cast_ofNat_Int, forall_eq']
    intro hl1
    refine ⟨fun hg3 => ?_, fun hg3 => ?_⟩
    · have hk2 : k < f.links.length := by have := of_decide_eq_true hg3; omega
      have hB : linkB n.caps.length f.links k = (!(bif decide (f.links.getD k 0 < 0) then true else decide ((n.caps.length : Int) ≤ f.links.getD k 0)) && !(f.links.take k).contains (f.links.getD k 0)) := by
        have := linkB_cond n.caps.length f.links k
        cases e1 : (bif decide (f.links.getD k 0 < 0) then true else decide ((n.caps.length : Int) ≤ f.links.getD k 0)) <;> rw [e1] at this <;> simp at this ⊢ <;> simp [this]
      refine ⟨⟨by omega, by omega⟩, fun _ => ⟨by omega, by omega⟩, fun h4 => ?_, fun h4 => ?_⟩
      · exact hno (rng_no hk2 (by rw [hB, h4]; rfl))
      rw [h4, Bool.not_false, Bool.true_and] at hB
      refine lwp_for (α := Unit) k (fun j _ => ∀ m, m < j → f.links.getD m 0 ≠ f.links.getD k 0) (fun j _ => [(1, .ptr 0 0 0 0 0), (5, .sc (.int .i64 i)), (6, .ptr 1 0 0 0 0), (7, .sc (.int .i64 k)), (8, .sc (.int .i64 j))])
        (fun _ _ => [(0, .box [.rsl 2 n.caps.length (rtsF n.caps), .rsl 4 n.fls.length (flsF n.fls)]), (0, .box [.rsl 1 f.links.length (intsF f.links), .sc (.bool f.bnd), .sc (.int .i64 f.dem.n), .sc (.int .i64 f.dem.d)])]) () (fun j hj => absurd hj (Nat.not_lt_zero _)) ?_ (fun _ _ => Nat.zero_le _) ?_
      · simp only [↓EVP0, EVQ0, EVQ1, EVQ2, EVQ3, EVQ4, EVA, EVK, EVFD, ↓reduceIte, Nat.reduceEqDiff, Nat.reduceAdd, Nat.reduceSub, Nat.reduceMul, Nat.reduceLT, Nat.reduceLeDiff, reduceCtorEq, Int.reduceToNat, Int.reduceLT, Int.reduceLE, Int.reduceAdd, Int.reduceSub, Int.reduceMul, Int.reduceNeg, Int.reduceEq, Nat.reduceMod, forall_eq_or_imp, forall_eq, forall_const, cond_true, cond_false, decide_true, decide_false, true_imp_iff, implies_true, Int.cast_ofNat_Int, forall_eq']
      intro j _ hj hw
      unfold lb11_0
      simp only [↓EVP0, EVQ0, EVQ1, EVQ2, EVQ3, EVQ4, EVA, EVK, EVFD, ↓reduceIte, Nat.reduceEqDiff, Nat.reduceAdd, Nat.reduceSub, Nat.reduceMul, Nat.reduceLT, Nat.reduceLeDiff, reduceCtorEq, Int.reduceToNat, Int.reduceLT, Int.reduceLE, Int.reduceAdd, Int.reduceSub, Int.reduceMul, Int.reduceNeg, Int.reduceEq, Nat.reduceMod, forall_eq_or_imp, forall_eq, forall_const, cond_true, cond_false, decide_true, decide_false, true_imp_iff, implies_true, Int.cast_ofNat_Int, forall_eq']
      refine ⟨fun hg5 => ?_, fun hg5 => ?_⟩
      · have hj2 : j < k := by have := of_decide_eq_true hg5; omega
        refine ⟨⟨by omega, by omega⟩, ⟨by omega, by omega⟩, fun h6 => ?_, fun h6 => ⟨by unfold In64; omega, hj2, (), snoc_all hw (of_decide_eq_false h6)⟩⟩
        exact hno (rng_no hk2 (by rw [hB, tc_yes hj2 (by omega) (of_decide_eq_true h6)]; rfl))
      · have hj2 : j = k := by have := of_decide_eq_false hg5; omega
        subst hj2
        exact ⟨by unfold In64; omega, hk2, (), snoc_all hz (by rw [hB, tc_no hw]; rfl)⟩
    · have hk2 : k = f.links.length := by have := of_decide_eq_false hg3; omega
      subst hk2
      exact ⟨by unfold In64; omega, hi2, (), hsn (rng_yes hz)⟩
  have hi2 : i = n.fls.length := by have := of_decide_eq_false hg2; omega
  subst hi2
  unfold vldN
  rw [all_yes hx, all_yes hy, decide_eq_true e1, decide_eq_true e2]; rfl
theorem ev_lawValid33 (n : Nt) (hn : NtOk n) : Ev Tryd.prog 3 [netV n] (.sc (.bool true)) := by
  have h0 := ev_awake33
  have h1 := ev_few33 n
  have h2 := ev_validN n hn
  have h3 := ev_plain33 n
  have h4 := ev_refvalid n
  unfold netV at *
  refine ev_fn Tryd.func3 comp3 (show 1 ≤ Tryd.f3.ntmps by decide) ?_; unfold cf3 rf3; simp only [↓EVP0, EVQ0, EVQ1, EVQ2, EVQ3, EVQ4, EVA, EVK, EVFD, ↓reduceIte, Nat.reduceEqDiff, Nat.reduceAdd, Nat.reduceSub, Nat.reduceMul, Nat.reduceLT, Nat.reduceLeDiff, reduceCtorEq, Int.reduceToNat, Int.reduceLT, Int.reduceLE, Int.reduceAdd, Int.reduceSub, Int.reduceMul, Int.reduceNeg, Int.reduceEq, Nat.reduceMod, forall_eq_or_imp, forall_eq, forall_const, cond_true, cond_false, decide_true, decide_false, true_imp_iff, implies_true, Int.cast_ofNat_Int, forall_eq']
  refine callK_ro (h0) ?_ ?_
  · simp only [↓EVP0, EVQ0, EVQ1, EVQ2, EVQ3, EVQ4, EVA, EVK, EVFD, ↓reduceIte, Nat.reduceEqDiff, Nat.reduceAdd, Nat.reduceSub, Nat.reduceMul, Nat.reduceLT, Nat.reduceLeDiff, reduceCtorEq, Int.reduceToNat, Int.reduceLT, Int.reduceLE, Int.reduceAdd, Int.reduceSub, Int.reduceMul, Int.reduceNeg, Int.reduceEq, Nat.reduceMod, forall_eq_or_imp, forall_eq, forall_const, cond_true, cond_false, decide_true, decide_false, true_imp_iff, implies_true, Int.cast_ofNat_Int, forall_eq']
  simp only [↓EVP0, EVQ0, EVQ1, EVQ2, EVQ3, EVQ4, EVA, EVK, EVFD, ↓reduceIte, Nat.reduceEqDiff, Nat.reduceAdd, Nat.reduceSub, Nat.reduceMul, Nat.reduceLT, Nat.reduceLeDiff, reduceCtorEq, Int.reduceToNat, Int.reduceLT, Int.reduceLE, Int.reduceAdd, Int.reduceSub, Int.reduceMul, Int.reduceNeg, Int.reduceEq, Nat.reduceMod, forall_eq_or_imp, forall_eq, forall_const, cond_true, cond_false, decide_true, decide_false, true_imp_iff, implies_true, Int.cast_ofNat_Int, forall_eq']
  (refine lops_ge_imp ?_; simp only [↓EVP0, EVQ0, EVQ1, EVQ2, EVQ3, EVQ4, EVA, EVK, EVFD, ↓reduceIte, Nat.reduceEqDiff, Nat.reduceAdd, Nat.reduceSub, Nat.reduceMul, Nat.reduceLT, Nat.reduceLeDiff, reduceCtorEq, Int.reduceToNat, Int.reduceLT, Int.reduceLE, Int.reduceAdd, Int.reduceSub, Int.reduceMul, Int.reduceNeg, Int.reduceEq, Nat.reduceMod, forall_eq_or_imp, forall_eq, forall_const, cond_true, cond_false, decide_true, decide_false, true_imp_iff, implies_true, Int.cast_ofNat_Int, forall_eq'])
  refine gCallK_ro _ (fun _ => h1) (fun _ => ?_) ?_
  · simp only [↓EVP0, EVQ0, EVQ1, EVQ2, EVQ3, EVQ4, EVA, EVK, EVFD, ↓reduceIte, Nat.reduceEqDiff, Nat.reduceAdd, Nat.reduceSub, Nat.reduceMul, Nat.reduceLT, Nat.reduceLeDiff, reduceCtorEq, Int.reduceToNat, Int.reduceLT, Int.reduceLE, Int.reduceAdd, Int.reduceSub, Int.reduceMul, Int.reduceNeg, Int.reduceEq, Nat.reduceMod, forall_eq_or_imp, forall_eq, forall_const, cond_true, cond_false, decide_true, decide_false, true_imp_iff, implies_true, Int.cast_ofNat_Int, forall_eq']
  simp only [↓EVP0, EVQ0, EVQ1, EVQ2, EVQ3, EVQ4, EVA, EVK, EVFD, ↓reduceIte, Nat.reduceEqDiff, Nat.reduceAdd, Nat.reduceSub, Nat.reduceMul, Nat.reduceLT, Nat.reduceLeDiff, reduceCtorEq, Int.reduceToNat, Int.reduceLT, Int.reduceLE, Int.reduceAdd, Int.reduceSub, Int.reduceMul, Int.reduceNeg, Int.reduceEq, Nat.reduceMod, forall_eq_or_imp, forall_eq, forall_const, cond_true, cond_false, decide_true, decide_false, true_imp_iff, implies_true, Int.cast_ofNat_Int, forall_eq']
  refine ⟨fun hg => ?_, fun hg hf1 => ?_⟩
  · refine callK_ro (h0) ?_ ?_
    · simp only [↓EVP0, EVQ0, EVQ1, EVQ2, EVQ3, EVQ4, EVA, EVK, EVFD, ↓reduceIte, Nat.reduceEqDiff, Nat.reduceAdd, Nat.reduceSub, Nat.reduceMul, Nat.reduceLT, Nat.reduceLeDiff, reduceCtorEq, Int.reduceToNat, Int.reduceLT, Int.reduceLE, Int.reduceAdd, Int.reduceSub, Int.reduceMul, Int.reduceNeg, Int.reduceEq, Nat.reduceMod, forall_eq_or_imp, forall_eq, forall_const, cond_true, cond_false, decide_true, decide_false, true_imp_iff, implies_true, Int.cast_ofNat_Int, forall_eq']
    simp only [↓EVP0, EVQ0, EVQ1, EVQ2, EVQ3, EVQ4, EVA, EVK, EVFD, ↓reduceIte, Nat.reduceEqDiff, Nat.reduceAdd, Nat.reduceSub, Nat.reduceMul, Nat.reduceLT, Nat.reduceLeDiff, reduceCtorEq, Int.reduceToNat, Int.reduceLT, Int.reduceLE, Int.reduceAdd, Int.reduceSub, Int.reduceMul, Int.reduceNeg, Int.reduceEq, Nat.reduceMod, forall_eq_or_imp, forall_eq, forall_const, cond_true, cond_false, decide_true, decide_false, true_imp_iff, implies_true, Int.cast_ofNat_Int, forall_eq']
  have e1 : fewB n = true := by simpa using hg
  obtain ⟨hc40, hf40⟩ := few_of e1
  refine lwp_for (α := Unit) n.fls.length (fun i _ => True) (fun i _ => [(1, .ptr 0 0 0 0 0), (16, .rsl 4 n.fls.length (flsF n.fls)), (17, .sc (.int .i64 n.fls.length)), (18, .sc (.int .i64 i))])
    (fun i _ => [(0, .box [.rsl 2 n.caps.length (rtsF n.caps), .rsl 4 n.fls.length (flsF n.fls)])]) () trivial ?_ (fun _ _ => Nat.zero_le _) ?_
  · simp only [↓EVP0, EVQ0, EVQ1, EVQ2, EVQ3, EVQ4, EVA, EVK, EVFD, ↓reduceIte, Nat.reduceEqDiff, Nat.reduceAdd, Nat.reduceSub, Nat.reduceMul, Nat.reduceLT, Nat.reduceLeDiff, reduceCtorEq, Int.reduceToNat, Int.reduceLT, Int.reduceLE, Int.reduceAdd, Int.reduceSub, Int.reduceMul, Int.reduceNeg, Int.reduceEq, Nat.reduceMod, forall_eq_or_imp, forall_eq, forall_const, cond_true, cond_false, decide_true, decide_false, true_imp_iff, implies_true, Int.cast_ofNat_Int, forall_eq']
  intro i _ hi _
  unfold lb3_1
  simp only [↓EVP0, EVQ0, EVQ1, EVQ2, EVQ3, EVQ4, EVA, EVK, EVFD, ↓reduceIte, Nat.reduceEqDiff, Nat.reduceAdd, Nat.reduceSub, Nat.reduceMul, Nat.reduceLT, Nat.reduceLeDiff, reduceCtorEq, Int.reduceToNat, Int.reduceLT, Int.reduceLE, Int.reduceAdd, Int.reduceSub, Int.reduceMul, Int.reduceNeg, Int.reduceEq, Nat.reduceMod, forall_eq_or_imp, forall_eq, forall_const, cond_true, cond_false, decide_true, decide_false, true_imp_iff, implies_true, Int.cast_ofNat_Int, forall_eq']
  refine ⟨fun hg2 => ?_, fun hg2 => ?_⟩
  · have hi2 : i < n.fls.length := by have := of_decide_eq_true hg2; omega
    exact ⟨⟨by omega, by omega⟩, fun _ => trivial, fun _ => ⟨by unfold In64; omega, hi2, (), trivial⟩⟩
  have hi2 : i = n.fls.length := by have := of_decide_eq_false hg2; omega
  subst hi2
  intro hc1
  refine lwp_for (α := Unit) n.caps.length (fun i _ => True) (fun i _ => [(1, .ptr 0 0 0 0 0), (34, .rsl 2 n.caps.length (rtsF n.caps)), (35, .sc (.int .i64 n.caps.length)), (36, .sc (.int .i64 i))])
    (fun i _ => [(0, .box [.rsl 2 n.caps.length (rtsF n.caps), .rsl 4 n.fls.length (flsF n.fls)])]) () trivial ?_ (fun _ _ => Nat.zero_le _) ?_
  · simp only [↓EVP0, EVQ0, EVQ1, EVQ2, EVQ3, EVQ4, EVA, EVK, EVFD, ↓reduceIte, Nat.reduceEqDiff, Nat.reduceAdd, Nat.reduceSub, Nat.reduceMul, Nat.reduceLT, Nat.reduceLeDiff, reduceCtorEq, Int.reduceToNat, Int.reduceLT, Int.reduceLE, Int.reduceAdd, Int.reduceSub, Int.reduceMul, Int.reduceNeg, Int.reduceEq, Nat.reduceMod, forall_eq_or_imp, forall_eq, forall_const, cond_true, cond_false, decide_true, decide_false, true_imp_iff, implies_true, Int.cast_ofNat_Int, forall_eq']
  intro i _ hi _
  unfold lb3_0
  simp only [↓EVP0, EVQ0, EVQ1, EVQ2, EVQ3, EVQ4, EVA, EVK, EVFD, ↓reduceIte, Nat.reduceEqDiff, Nat.reduceAdd, Nat.reduceSub, Nat.reduceMul, Nat.reduceLT, Nat.reduceLeDiff, reduceCtorEq, Int.reduceToNat, Int.reduceLT, Int.reduceLE, Int.reduceAdd, Int.reduceSub, Int.reduceMul, Int.reduceNeg, Int.reduceEq, Nat.reduceMod, forall_eq_or_imp, forall_eq, forall_const, cond_true, cond_false, decide_true, decide_false, true_imp_iff, implies_true, Int.cast_ofNat_Int, forall_eq']
  refine ⟨fun hg2 => ?_, fun hg2 => ?_⟩
  · have hi2 : i < n.caps.length := by have := of_decide_eq_true hg2; omega
    exact ⟨⟨by omega, by omega⟩, fun _ => trivial, fun _ => ⟨by unfold In64; omega, hi2, (), trivial⟩⟩
  have h3 := h3 hc40 hf40
  have h4 := h4 hc40 hf40
  first | refine qCallK_ro (h2) ?_ ?_ | refine eCallK_ro (h2) ?_ ?_
  · simp only [↓EVP0, EVQ0, EVQ1, EVQ2, EVQ3, EVQ4, EVA, EVK, EVFD, ↓reduceIte, Nat.reduceEqDiff, Nat.reduceAdd, Nat.reduceSub, Nat.reduceMul, Nat.reduceLT, Nat.reduceLeDiff, reduceCtorEq, Int.reduceToNat, Int.reduceLT, Int.reduceLE, Int.reduceAdd, Int.reduceSub, Int.reduceMul, Int.reduceNeg, Int.reduceEq, Nat.reduceMod, forall_eq_or_imp, forall_eq, forall_const, cond_true, cond_false, decide_true, decide_false, true_imp_iff, implies_true, Int.cast_ofNat_Int, forall_eq']
  simp only [↓EVP0, EVQ0, EVQ1, EVQ2, EVQ3, EVQ4, EVA, EVK, EVFD, ↓reduceIte, Nat.reduceEqDiff, Nat.reduceAdd, Nat.reduceSub, Nat.reduceMul, Nat.reduceLT, Nat.reduceLeDiff, reduceCtorEq, Int.reduceToNat, Int.reduceLT, Int.reduceLE, Int.reduceAdd, Int.reduceSub, Int.reduceMul, Int.reduceNeg, Int.reduceEq, Nat.reduceMod, forall_eq_or_imp, forall_eq, forall_const, cond_true, cond_false, decide_true, decide_false, true_imp_iff, implies_true, Int.cast_ofNat_Int, forall_eq']
  first | refine qCallK_ro (h3) ?_ ?_ | refine eCallK_ro (h3) ?_ ?_
  · simp only [↓EVP0, EVQ0, EVQ1, EVQ2, EVQ3, EVQ4, EVA, EVK, EVFD, ↓reduceIte, Nat.reduceEqDiff, Nat.reduceAdd, Nat.reduceSub, Nat.reduceMul, Nat.reduceLT, Nat.reduceLeDiff, reduceCtorEq, Int.reduceToNat, Int.reduceLT, Int.reduceLE, Int.reduceAdd, Int.reduceSub, Int.reduceMul, Int.reduceNeg, Int.reduceEq, Nat.reduceMod, forall_eq_or_imp, forall_eq, forall_const, cond_true, cond_false, decide_true, decide_false, true_imp_iff, implies_true, Int.cast_ofNat_Int, forall_eq']
  simp only [↓EVP0, EVQ0, EVQ1, EVQ2, EVQ3, EVQ4, EVA, EVK, EVFD, ↓reduceIte, Nat.reduceEqDiff, Nat.reduceAdd, Nat.reduceSub, Nat.reduceMul, Nat.reduceLT, Nat.reduceLeDiff, reduceCtorEq, Int.reduceToNat, Int.reduceLT, Int.reduceLE, Int.reduceAdd, Int.reduceSub, Int.reduceMul, Int.reduceNeg, Int.reduceEq, Nat.reduceMod, forall_eq_or_imp, forall_eq, forall_const, cond_true, cond_false, decide_true, decide_false, true_imp_iff, implies_true, Int.cast_ofNat_Int, forall_eq']
  first | refine qCallK_ro (h4) ?_ ?_ | refine eCallK_ro (h4) ?_ ?_
  · simp only [↓EVP0, EVQ0, EVQ1, EVQ2, EVQ3, EVQ4, EVA, EVK, EVFD, ↓reduceIte, Nat.reduceEqDiff, Nat.reduceAdd, Nat.reduceSub, Nat.reduceMul, Nat.reduceLT, Nat.reduceLeDiff, reduceCtorEq, Int.reduceToNat, Int.reduceLT, Int.reduceLE, Int.reduceAdd, Int.reduceSub, Int.reduceMul, Int.reduceNeg, Int.reduceEq, Nat.reduceMod, forall_eq_or_imp, forall_eq, forall_const, cond_true, cond_false, decide_true, decide_false, true_imp_iff, implies_true, Int.cast_ofNat_Int, forall_eq']
  simp only [↓EVP0, EVQ0, EVQ1, EVQ2, EVQ3, EVQ4, EVA, EVK, EVFD, ↓reduceIte, Nat.reduceEqDiff, Nat.reduceAdd, Nat.reduceSub, Nat.reduceMul, Nat.reduceLT, Nat.reduceLeDiff, reduceCtorEq, Int.reduceToNat, Int.reduceLT, Int.reduceLE, Int.reduceAdd, Int.reduceSub, Int.reduceMul, Int.reduceNeg, Int.reduceEq, Nat.reduceMod, forall_eq_or_imp, forall_eq, forall_const, cond_true, cond_false, decide_true, decide_false, true_imp_iff, implies_true, Int.cast_ofNat_Int, forall_eq']
  rfl
end Go.Proofs.YtdfiicpikcdokaaDoor
namespace Go.Proofs.YtdfiicpikcdokaaDoor
set_option linter.unusedSimpArgs false
set_option linter.unusedVariables false
open Go.RowKit
set_option maxRecDepth 20000

/-- A sum of at most k small numbers. -/
def Bd (k : Nat) (S : Rt) : Prop := vldR S = true ∧ (nrmR S).d.natAbs ≤ 16 ^ k ∧ (nrmR S).n.natAbs ≤ 256 * (k * 16 ^ k)
def SmR (r : Rt) : Prop := -256 ≤ r.n ∧ r.n ≤ 256 ∧ r.d ≤ 16
theorem pow_pos16 (k : Nat) : 1 ≤ 16 ^ k := Nat.pow_pos (by decide)
theorem bd_succ {k : Nat} {S : Rt} (h : Bd k S) : Bd (k + 1) S := by
  obtain ⟨h1, h2, h3⟩ := h
  refine ⟨h1, ?_, ?_⟩
  · rw [Nat.pow_succ]; omega
  · rw [Nat.pow_succ, Nat.add_mul, ← Nat.mul_assoc k]; omega
theorem bd_mono {k m : Nat} {S : Rt} (h : Bd k S) (hm : k ≤ m) : Bd m S := by
  induction m with
  | zero => rwa [show (0 : Nat) = k by omega]
  | succ m ih =>
    by_cases e : k = m + 1
    · rwa [← e]
    · exact bd_succ (ih (by omega))
theorem bd_zero : Bd 0 ⟨0, 1⟩ := by
  refine ⟨vld01, ?_, ?_⟩ <;> simp [nrmR]
theorem low_bd {x : Int} {y : Nat} (hy : 0 < y) (h1 : x.natAbs ≤ 1152921504606846976) (h2 : y ≤ 1152921504606846976) : (low x y).2 = 0 ∧ (low x y).1.n.natAbs ≤ x.natAbs ∧ (low x y).1.d.natAbs ≤ y := by
  unfold low res
  have t1 := Nat.div_le_self x.natAbs (Nat.gcd x.natAbs y)
  have t2 := Nat.div_le_self y (Nat.gcd x.natAbs y)
  generalize x.natAbs / Nat.gcd x.natAbs y = a at *
  generalize y / Nat.gcd x.natAbs y = b at *
  split
  · refine ⟨rfl, ?_, ?_⟩ <;> simp; omega
  · rw [if_pos ⟨by omega, by omega⟩]
    refine ⟨rfl, ?_, ?_⟩
    · show (sg _ a).natAbs ≤ _
      rw [sg_natAbs]; exact t1
    · show ((b : Int)).natAbs ≤ y
      omega
theorem bd_bounds {k : Nat} (hk : k ≤ 7) : 16 ^ k ≤ 268435456 ∧ k * 16 ^ k ≤ 7 * 268435456 := by
  have h1 : 16 ^ k ≤ 16 ^ 7 := Nat.pow_le_pow_right (by decide) hk
  have h2 : (16 : Nat) ^ 7 = 268435456 := by decide
  rw [h2] at h1
  exact ⟨h1, Nat.mul_le_mul hk h1⟩
theorem small_nrm {r : Rt} (hv : vldR r = true) (h : SmR r) : (nrmR r).n.natAbs ≤ 256 ∧ (nrmR r).d.natAbs ≤ 16 := by
  have hl := (vld_low hv).1
  unfold SmR at h
  unfold nrmR at hl ⊢
  split
  · refine ⟨?_, ?_⟩ <;> simp only <;> omega
  · rename_i h0
    rw [if_neg h0] at hl
    omega
theorem prod_bd {k : Nat} {S r : Rt} (hk : k ≤ 7) (hS : Bd k S) (hv : vldR r = true) (hr : SmR r) : (nrmR S).n.natAbs * (nrmR r).d.natAbs ≤ 256 * (k * 16 ^ k) * 16 ∧ (nrmR r).n.natAbs * (nrmR S).d.natAbs ≤ 256 * 16 ^ k ∧ (nrmR S).d.natAbs * (nrmR r).d.natAbs ≤ 16 ^ k * 16 := by
  obtain ⟨h1, h2, h3⟩ := hS
  obtain ⟨g1, g2⟩ := small_nrm hv hr
  exact ⟨Nat.mul_le_mul h3 g2, Nat.mul_le_mul g1 h2, Nat.mul_le_mul h2 g2⟩
theorem add_bd {k : Nat} {S r : Rt} (hk : k < 7) (hS : Bd k S) (hv : vldR r = true) (hr : SmR r) : (addR S r).2 = 0 ∧ Bd (k + 1) (addR S r).1 := by
  obtain ⟨p1, p2, p3⟩ := prod_bd (by omega) hS hv hr
  obtain ⟨b1, b2⟩ := bd_bounds (k := k) (by omega)
  rw [addR_E hS.1 hv]
  have a := vld_low hS.1
  have b := vld_low hv
  unfold addE
  generalize nrmR S = A at *
  generalize nrmR r = B at *
  have hx : (A.n * B.d + B.n * A.d).natAbs ≤ A.n.natAbs * B.d.natAbs + B.n.natAbs * A.d.natAbs := by
    have := Int.natAbs_add_le (A.n * B.d) (B.n * A.d)
    rw [Int.natAbs_mul, Int.natAbs_mul] at this
    exact this
  have hy := pos2 a b
  generalize A.n * B.d + B.n * A.d = X at *
  generalize A.d.natAbs * B.d.natAbs = Y at *
  generalize A.n.natAbs * B.d.natAbs = Z at *
  generalize B.n.natAbs * A.d.natAbs = W at *
  obtain ⟨h1, h2, h3⟩ := low_bd (x := X) (y := Y) hy (by omega) (by omega)
  rcases low_ok (x := X) hy with h4 | h4
  · obtain ⟨k1, k2⟩ := low_vld h4.2.1
    refine ⟨h1, k1, ?_, ?_⟩
    · rw [k2, Nat.pow_succ]; omega
    · rw [k2, Nat.pow_succ, Nat.add_mul, ← Nat.mul_assoc k]; omega
  · rw [h4] at h1; simp at h1
theorem loadA_bdL {t : Nat} (ht : t < 7) {r : Rt} (hv : vldR r = true) (hr : SmR r) : ∀ (ls : List Int) (L : List Rt), ls.Nodup → (∀ x, x ∈ ls → 0 ≤ x ∧ x < L.length) → (∀ j, j < L.length → Bd (if (j : Int) ∈ ls then t else t + 1) (L.getD j default)) →
    ∃ M, loadA (ls.map fun l => (l, r)) L = (M, 0) ∧ M.length = L.length ∧ ∀ j, j < L.length → Bd (t + 1) (M.getD j default)
  | [], L, _, _, h => ⟨L, rfl, rfl, fun j hj => by have := h j hj; simpa using this⟩
  | x :: ls, L, hn, hin, h => by
    obtain ⟨x0, x1⟩ := hin x (by simp)
    have hx := h x.toNat (by omega)
    rw [if_pos (show ((x.toNat : Nat) : Int) ∈ x :: ls by rw [show ((x.toNat : Nat) : Int) = x by omega]; simp)] at hx
    obtain ⟨a1, a2⟩ := add_bd ht hx hv hr
    rw [List.nodup_cons] at hn
    obtain ⟨M, m1, m2, m3⟩ := loadA_bdL ht hv hr ls (L.set x.toNat (addR (L.getD x.toNat default) r).1) hn.2 (fun y hy => by rw [List.length_set]; exact hin y (by simp [hy])) (fun j hj => by
      rw [List.length_set] at hj
      rw [set_get _ (by omega)]
      by_cases e : j = x.toNat
      · rw [if_pos e, if_neg (fun hm => hn.1 (by rw [show (j : Int) = x by omega] at hm; exact hm))]
        exact a2
      · rw [if_neg e]
        have := h j hj
        by_cases e2 : (j : Int) ∈ ls
        · rw [if_pos e2]; rw [if_pos (by simp [e2])] at this; exact this
        · rw [if_neg e2]; rw [if_neg (by simp only [List.mem_cons, not_or]; exact ⟨by omega, e2⟩)] at this; exact this)
    rw [List.length_set] at m2 m3
    refine ⟨M, ?_, m2, m3⟩
    simp only [List.map_cons, loadA]
    rw [if_pos a1]; exact m1
theorem loadA_bdF : ∀ (fs : List Fl) (rs : List Rt) (t : Nat) (L : List Rt), fs.length = rs.length → t + fs.length ≤ 7 → (∀ f, f ∈ fs → f.links.Nodup ∧ ∀ x, x ∈ f.links → 0 ≤ x ∧ x < L.length) → (∀ r, r ∈ rs → vldR r = true ∧ SmR r) →
    (∀ j, j < L.length → Bd t (L.getD j default)) → (loadA (prs fs rs) L).2 = 0
  | [], _, _, _, _, _, _, _, _ => by simp [prs, loadA]
  | f :: fs, r :: rs, t, L, hl, ht, hf, hr, h => by
    simp only [List.length_cons] at ht hl
    obtain ⟨f1, f2⟩ := hf f (by simp)
    obtain ⟨r1, r2⟩ := hr r (by simp)
    obtain ⟨M, m1, m2, m3⟩ := loadA_bdL (t := t) (by omega) r1 r2 f.links L f1 f2 (fun j hj => by
      split
      · exact h j hj
      · exact bd_succ (h j hj))
    simp only [prs]
    rw [loadA_app, m1, if_pos rfl]
    exact loadA_bdF fs rs (t + 1) M (by omega) (by omega) (fun g hg => by rw [m2]; exact hf g (by simp [hg])) (fun x hx => hr x (by simp [hx])) (fun j hj => m3 j (by omega))
  | _ :: _, [], _, _, h, _, _, _, _ => by simp at h
theorem load_small {n : Nt} {rates : List Rt} (h1 : vldN n = true) (h2 : rates.length = n.fls.length) (h3 : ∀ r, r ∈ rates → vldR r = true) (h4 : ∀ r, r ∈ rates → SmR r) (h5 : rates.length ≤ 7) : (loadE n rates).2 = 0 := by
  have hV := vldN_of h1
  rw [loadE_of h1 h2 h3]
  refine loadA_bdF n.fls rates 0 _ h2.symm (by omega) (fun f hf => ⟨hV.once f hf, fun x hx => by rw [List.length_replicate]; exact hV.link f hf x hx⟩) (fun r hr => ⟨h3 r hr, h4 r hr⟩) (fun j hj => ?_)
  rw [List.length_replicate] at hj
  rw [List.getD_eq_getElem?_getD, List.getElem?_replicate, if_pos hj]
  exact bd_zero
/-- The reference's load of a link. -/
def refA (j : Int) : List Fl → List Rt → Rt → Rt
  | f :: fs, r :: rs, S => refA j fs rs (if f.links.contains j = true then (addR S r).1 else S)
  | _, _, S => S
theorem sq_nodup (r : Rt) (j : Nat) : ∀ ls : List Int, ls.Nodup → sq (ls.map fun l => (l, r)) j = if ls.contains (j : Int) = true then qv r else 0
  | [], _ => by simp [sq]
  | x :: ls, h => by
    rw [List.nodup_cons] at h
    simp only [List.map_cons, sq]
    rw [sq_nodup r j ls h.2]
    by_cases e : x = (j : Int)
    · subst e
      rw [if_pos rfl, if_neg (show ¬ ls.contains (j : Int) = true by rw [List.contains_iff_mem]; exact h.1), if_pos (by simp)]; grind
    · rw [if_neg e]
      by_cases e2 : ls.contains (j : Int) = true
      · rw [if_pos e2, if_pos (by rw [List.contains_cons, e2]; simp)]; grind
      · rw [if_neg e2, if_neg (by rw [List.contains_cons]; simp only [Bool.or_eq_true, not_or]; exact ⟨by simpa using fun h => e h.symm, e2⟩)]; grind
theorem refA_q (j : Nat) : ∀ (fs : List Fl) (rs : List Rt) (t : Nat) (S : Rt), fs.length = rs.length → t + fs.length ≤ 7 → (∀ f, f ∈ fs → f.links.Nodup) → (∀ r, r ∈ rs → vldR r = true ∧ SmR r) → Bd t S →
    Bd (t + fs.length) (refA j fs rs S) ∧ qv (refA j fs rs S) = qv S + sq (prs fs rs) j
  | [], rs, t, S, hl, _, _, _, h => by
    obtain rfl : rs = [] := List.length_eq_zero_iff.1 (by simpa using hl.symm)
    exact ⟨h, by simp [refA, prs, sq]; grind⟩
  | f :: fs, r :: rs, t, S, hl, ht, hf, hr, h => by
    simp only [List.length_cons] at ht hl ⊢
    obtain ⟨r1, r2⟩ := hr r (by simp)
    obtain ⟨a1, a2⟩ := add_bd (k := t) (by omega) h r1 r2
    have hs := sq_nodup r j f.links (hf f (by simp))
    simp only [prs, refA, sq_app]
    rw [hs]
    by_cases e : f.links.contains (j : Int) = true
    · rw [if_pos e, if_pos e]
      obtain ⟨i1, i2⟩ := refA_q j fs rs (t + 1) (addR S r).1 (by omega) (by omega) (fun g hg => hf g (by simp [hg])) (fun x hx => hr x (by simp [hx])) a2
      refine ⟨by rw [show t + (fs.length + 1) = t + 1 + fs.length by omega]; exact i1, ?_⟩
      rw [i2, qv_add a1]; grind
    · rw [if_neg e, if_neg e]
      obtain ⟨i1, i2⟩ := refA_q j fs rs (t + 1) S (by omega) (by omega) (fun g hg => hf g (by simp [hg])) (fun x hx => hr x (by simp [hx])) (bd_succ h)
      refine ⟨by rw [show t + (fs.length + 1) = t + 1 + fs.length by omega]; exact i1, ?_⟩
      rw [i2]; grind
  | _ :: _, [], _, _, h, _, _, _, _ => by simp at h
/-- The reference's loads are those of the program. -/
theorem refA_law {n : Nt} {rates : List Rt} (h1 : vldN n = true) (h2 : rates.length = n.fls.length) (h3 : ∀ r, r ∈ rates → vldR r = true) (h4 : ∀ r, r ∈ rates → SmR r) (h5 : rates.length ≤ 7) {j : Nat} (hj : j < n.caps.length) :
    Bd 7 (refA j n.fls rates ⟨0, 1⟩) ∧ nrmR (refA j n.fls rates ⟨0, 1⟩) = nrmR ((loadE n rates).1.getD j default) := by
  have hV := vldN_of h1
  obtain ⟨i1, i2⟩ := refA_q j n.fls rates 0 ⟨0, 1⟩ h2.symm (by omega) (fun f hf => hV.once f hf) (fun r hr => ⟨h3 r hr, h4 r hr⟩) bd_zero
  have i1 := bd_mono i1 (m := 7) (by omega)
  obtain ⟨s1, s2, s3⟩ := load_sum (load_small h1 h2 h3 h4 h5)
  have hv := s2 _ (getD_mem default (show j < (loadE n rates).1.length by omega))
  refine ⟨i1, qv_inj (vld_low i1.1) (vld_low hv) ?_⟩
  rw [qv_nrm i1.1, qv_nrm hv, i2, s3 j hj, qv_zero1]; grind
end Go.Proofs.YtdfiicpikcdokaaDoor
namespace Go.Proofs.YtdfiicpikcdokaaDoor
set_option linter.unusedSimpArgs false
set_option linter.unusedVariables false
open Go.RowKit
set_option maxRecDepth 20000

def In61 (x : Int) : Prop := -2305843009213693952 ≤ x ∧ x ≤ 2305843009213693952
theorem ev_radd2 (a b : Rt) (p1 : In61 ((fullR a).n * (fullR b).d)) (p2 : In61 ((fullR b).n * (fullR a).d)) (p3 : In61 ((fullR a).d * (fullR b).d)) : Ev Tryd.prog 42 [ratV a, ratV b] (rrV (ofR ((fullR a).n * (fullR b).d + (fullR b).n * (fullR a).d) ((fullR a).d * (fullR b).d))) := by
  have f1 := ev_full a
  have f2 := ev_full b
  unfold In61 at *
  generalize fullR a = A at *
  generalize fullR b = B at *
  have h1 := ev_rof (A.n * B.d + B.n * A.d) (A.d * B.d) (by unfold In63; omega) (by unfold In63; omega)
  unfold rrV ratV at *
  refine ev_fn Tryd.func42 comp42 (show 2 ≤ Tryd.f42.ntmps by decide) ?_; unfold cf42 rf42; simp only [↓EVP0, EVQ0, EVQ1, EVQ2, EVQ3, EVQ4, EVA, EVK, EVFD, ↓reduceIte, Nat.reduceEqDiff, Nat.reduceAdd, Nat.reduceSub, Nat.reduceMul, Nat.reduceLT, Nat.reduceLeDiff, reduceCtorEq, Int.reduceToNat, Int.reduceLT, Int.reduceLE, Int.reduceAdd, Int.reduceSub, Int.reduceMul, Int.reduceNeg, Int.reduceEq, Nat.reduceMod, forall_eq_or_imp, forall_eq, forall_const, cond_true, cond_false, decide_true, decide_false, true_imp_iff, implies_true, Int.cast_ofNat_Int, forall_eq']
  first | refine qCallK_ro (f1) ?_ ?_ | refine eCallK_ro (f1) ?_ ?_
  · simp only [↓EVP0, EVQ0, EVQ1, EVQ2, EVQ3, EVQ4, EVA, EVK, EVFD, ↓reduceIte, Nat.reduceEqDiff, Nat.reduceAdd, Nat.reduceSub, Nat.reduceMul, Nat.reduceLT, Nat.reduceLeDiff, reduceCtorEq, Int.reduceToNat, Int.reduceLT, Int.reduceLE, Int.reduceAdd, Int.reduceSub, Int.reduceMul, Int.reduceNeg, Int.reduceEq, Nat.reduceMod, forall_eq_or_imp, forall_eq, forall_const, cond_true, cond_false, decide_true, decide_false, true_imp_iff, implies_true, Int.cast_ofNat_Int, forall_eq']
  simp only [↓EVP0, EVQ0, EVQ1, EVQ2, EVQ3, EVQ4, EVA, EVK, EVFD, ↓reduceIte, Nat.reduceEqDiff, Nat.reduceAdd, Nat.reduceSub, Nat.reduceMul, Nat.reduceLT, Nat.reduceLeDiff, reduceCtorEq, Int.reduceToNat, Int.reduceLT, Int.reduceLE, Int.reduceAdd, Int.reduceSub, Int.reduceMul, Int.reduceNeg, Int.reduceEq, Nat.reduceMod, forall_eq_or_imp, forall_eq, forall_const, cond_true, cond_false, decide_true, decide_false, true_imp_iff, implies_true, Int.cast_ofNat_Int, forall_eq']
  first | refine qCallK_ro (f2) ?_ ?_ | refine eCallK_ro (f2) ?_ ?_
  · simp only [↓EVP0, EVQ0, EVQ1, EVQ2, EVQ3, EVQ4, EVA, EVK, EVFD, ↓reduceIte, Nat.reduceEqDiff, Nat.reduceAdd, Nat.reduceSub, Nat.reduceMul, Nat.reduceLT, Nat.reduceLeDiff, reduceCtorEq, Int.reduceToNat, Int.reduceLT, Int.reduceLE, Int.reduceAdd, Int.reduceSub, Int.reduceMul, Int.reduceNeg, Int.reduceEq, Nat.reduceMod, forall_eq_or_imp, forall_eq, forall_const, cond_true, cond_false, decide_true, decide_false, true_imp_iff, implies_true, Int.cast_ofNat_Int, forall_eq']
  simp only [↓EVP0, EVQ0, EVQ1, EVQ2, EVQ3, EVQ4, EVA, EVK, EVFD, ↓reduceIte, Nat.reduceEqDiff, Nat.reduceAdd, Nat.reduceSub, Nat.reduceMul, Nat.reduceLT, Nat.reduceLeDiff, reduceCtorEq, Int.reduceToNat, Int.reduceLT, Int.reduceLE, Int.reduceAdd, Int.reduceSub, Int.reduceMul, Int.reduceNeg, Int.reduceEq, Nat.reduceMod, forall_eq_or_imp, forall_eq, forall_const, cond_true, cond_false, decide_true, decide_false, true_imp_iff, implies_true, Int.cast_ofNat_Int, forall_eq']
  unfold In64
  refine ⟨by omega, by omega, by omega, by omega, ?_⟩
  refine callK_ro (h1) ?_ ?_
  · simp only [↓EVP0, EVQ0, EVQ1, EVQ2, EVQ3, EVQ4, EVA, EVK, EVFD, ↓reduceIte, Nat.reduceEqDiff, Nat.reduceAdd, Nat.reduceSub, Nat.reduceMul, Nat.reduceLT, Nat.reduceLeDiff, reduceCtorEq, Int.reduceToNat, Int.reduceLT, Int.reduceLE, Int.reduceAdd, Int.reduceSub, Int.reduceMul, Int.reduceNeg, Int.reduceEq, Nat.reduceMod, forall_eq_or_imp, forall_eq, forall_const, cond_true, cond_false, decide_true, decide_false, true_imp_iff, implies_true, Int.cast_ofNat_Int, forall_eq']
  simp only [↓EVP0, EVQ0, EVQ1, EVQ2, EVQ3, EVQ4, EVA, EVK, EVFD, ↓reduceIte, Nat.reduceEqDiff, Nat.reduceAdd, Nat.reduceSub, Nat.reduceMul, Nat.reduceLT, Nat.reduceLeDiff, reduceCtorEq, Int.reduceToNat, Int.reduceLT, Int.reduceLE, Int.reduceAdd, Int.reduceSub, Int.reduceMul, Int.reduceNeg, Int.reduceEq, Nat.reduceMod, forall_eq_or_imp, forall_eq, forall_const, cond_true, cond_false, decide_true, decide_false, true_imp_iff, implies_true, Int.cast_ofNat_Int, forall_eq']
theorem ev_rcmp2 (a b : Rt) (p1 : In61 ((fullR a).n * (fullR b).d)) (p2 : In61 ((fullR b).n * (fullR a).d)) : Ev Tryd.prog 43 [ratV a, ratV b] (.sc (.int .i64 (cmpE (fullR a) (fullR b)))) := by
  have f1 := ev_full a
  have f2 := ev_full b
  unfold In61 at *
  generalize fullR a = A at *
  generalize fullR b = B at *
  unfold ratV at *
  refine ev_fn Tryd.func43 comp43 (show 2 ≤ Tryd.f43.ntmps by decide) ?_; unfold cf43 rf43; simp only [↓EVP0, EVQ0, EVQ1, EVQ2, EVQ3, EVQ4, EVA, EVK, EVFD, ↓reduceIte, Nat.reduceEqDiff, Nat.reduceAdd, Nat.reduceSub, Nat.reduceMul, Nat.reduceLT, Nat.reduceLeDiff, reduceCtorEq, Int.reduceToNat, Int.reduceLT, Int.reduceLE, Int.reduceAdd, Int.reduceSub, Int.reduceMul, Int.reduceNeg, Int.reduceEq, Nat.reduceMod, forall_eq_or_imp, forall_eq, forall_const, cond_true, cond_false, decide_true, decide_false, true_imp_iff, implies_true, Int.cast_ofNat_Int, forall_eq']
  first | refine qCallK_ro (f1) ?_ ?_ | refine eCallK_ro (f1) ?_ ?_
  · simp only [↓EVP0, EVQ0, EVQ1, EVQ2, EVQ3, EVQ4, EVA, EVK, EVFD, ↓reduceIte, Nat.reduceEqDiff, Nat.reduceAdd, Nat.reduceSub, Nat.reduceMul, Nat.reduceLT, Nat.reduceLeDiff, reduceCtorEq, Int.reduceToNat, Int.reduceLT, Int.reduceLE, Int.reduceAdd, Int.reduceSub, Int.reduceMul, Int.reduceNeg, Int.reduceEq, Nat.reduceMod, forall_eq_or_imp, forall_eq, forall_const, cond_true, cond_false, decide_true, decide_false, true_imp_iff, implies_true, Int.cast_ofNat_Int, forall_eq']
  simp only [↓EVP0, EVQ0, EVQ1, EVQ2, EVQ3, EVQ4, EVA, EVK, EVFD, ↓reduceIte, Nat.reduceEqDiff, Nat.reduceAdd, Nat.reduceSub, Nat.reduceMul, Nat.reduceLT, Nat.reduceLeDiff, reduceCtorEq, Int.reduceToNat, Int.reduceLT, Int.reduceLE, Int.reduceAdd, Int.reduceSub, Int.reduceMul, Int.reduceNeg, Int.reduceEq, Nat.reduceMod, forall_eq_or_imp, forall_eq, forall_const, cond_true, cond_false, decide_true, decide_false, true_imp_iff, implies_true, Int.cast_ofNat_Int, forall_eq']
  first | refine qCallK_ro (f2) ?_ ?_ | refine eCallK_ro (f2) ?_ ?_
  · simp only [↓EVP0, EVQ0, EVQ1, EVQ2, EVQ3, EVQ4, EVA, EVK, EVFD, ↓reduceIte, Nat.reduceEqDiff, Nat.reduceAdd, Nat.reduceSub, Nat.reduceMul, Nat.reduceLT, Nat.reduceLeDiff, reduceCtorEq, Int.reduceToNat, Int.reduceLT, Int.reduceLE, Int.reduceAdd, Int.reduceSub, Int.reduceMul, Int.reduceNeg, Int.reduceEq, Nat.reduceMod, forall_eq_or_imp, forall_eq, forall_const, cond_true, cond_false, decide_true, decide_false, true_imp_iff, implies_true, Int.cast_ofNat_Int, forall_eq']
  simp only [↓EVP0, EVQ0, EVQ1, EVQ2, EVQ3, EVQ4, EVA, EVK, EVFD, ↓reduceIte, Nat.reduceEqDiff, Nat.reduceAdd, Nat.reduceSub, Nat.reduceMul, Nat.reduceLT, Nat.reduceLeDiff, reduceCtorEq, Int.reduceToNat, Int.reduceLT, Int.reduceLE, Int.reduceAdd, Int.reduceSub, Int.reduceMul, Int.reduceNeg, Int.reduceEq, Nat.reduceMod, forall_eq_or_imp, forall_eq, forall_const, cond_true, cond_false, decide_true, decide_false, true_imp_iff, implies_true, Int.cast_ofNat_Int, forall_eq']
  unfold In64 cmpE cmpI
  refine ⟨by omega, by omega, fun h => ?_, fun h => ⟨fun h2 => ?_, fun h2 => ?_⟩⟩
  all_goals simp only [decide_eq_true_eq, decide_eq_false_iff_not] at *
  · rw [if_pos h]
  · rw [if_neg h, if_neg (by omega)]
  · rw [if_neg h, if_pos (by omega)]
theorem in61_abs {x y : Int} {m : Nat} (h : x.natAbs * y.natAbs ≤ m) (hm : m ≤ 2305843009213693952) : In61 (x * y) := by
  have := Int.natAbs_mul x y
  unfold In61; omega
theorem bd_in61 {k : Nat} {S r : Rt} (hk : k ≤ 7) (hS : Bd k S) (hv : vldR r = true) (hr : SmR r) : In61 ((fullR S).n * (fullR r).d) ∧ In61 ((fullR r).n * (fullR S).d) ∧ In61 ((fullR S).d * (fullR r).d) := by
  obtain ⟨p1, p2, p3⟩ := prod_bd hk hS hv hr
  obtain ⟨b1, b2⟩ := bd_bounds hk
  rw [full_nrm hS.1, full_nrm hv]
  exact ⟨in61_abs p1 (by omega), in61_abs p2 (by omega), in61_abs p3 (by omega)⟩
theorem ev_add3 {k : Nat} {S r : Rt} (hk : k ≤ 7) (hS : Bd k S) (hv : vldR r = true) (hr : SmR r) : Ev Tryd.prog 42 [ratV S, ratV r] (rrV (addR S r)) := by
  obtain ⟨p1, p2, p3⟩ := bd_in61 hk hS hv hr
  rw [add_ref hS.1 hv]
  exact ev_radd2 S r p1 p2 p3
theorem ev_cmp3 {k : Nat} {S r : Rt} (hk : k ≤ 7) (hS : Bd k S) (hv : vldR r = true) (hr : SmR r) : Ev Tryd.prog 43 [ratV S, ratV r] (.sc (.int .i64 (cmpR S r))) := by
  obtain ⟨p1, p2, _⟩ := bd_in61 hk hS hv hr
  have h := ev_rcmp2 S r p1 p2
  rw [full_nrm hS.1, full_nrm hv, ← cmpR_E hS.1 hv] at h
  exact h
theorem ev_uses (f : Fl) (j : Int) : Ev Tryd.prog 41 [.agg (flL f), .sc (.int .i64 j)] (.sc (.bool (f.links.contains j))) := by
  unfold flL
  refine ev_fn Tryd.func41 comp41 (show 2 ≤ Tryd.f41.ntmps by decide) ?_; unfold cf41 rf41; simp only [↓EVP0, EVQ0, EVQ1, EVQ2, EVQ3, EVQ4, EVA, EVK, EVFD, ↓reduceIte, Nat.reduceEqDiff, Nat.reduceAdd, Nat.reduceSub, Nat.reduceMul, Nat.reduceLT, Nat.reduceLeDiff, reduceCtorEq, Int.reduceToNat, Int.reduceLT, Int.reduceLE, Int.reduceAdd, Int.reduceSub, Int.reduceMul, Int.reduceNeg, Int.reduceEq, Nat.reduceMod, forall_eq_or_imp, forall_eq, forall_const, cond_true, cond_false, decide_true, decide_false, true_imp_iff, implies_true, Int.cast_ofNat_Int, forall_eq']
  refine lwp_for (α := Unit) f.links.length (fun i _ => ∀ m, m < i → f.links.getD m 0 ≠ j) (fun i _ => [(1, .sc (.int .i64 j)), (2, .ptr 0 0 0 0 0), (5, .sc (.int .i64 i))])
    (fun _ _ => [(0, .box [.rsl 1 f.links.length (intsF f.links), .sc (.bool f.bnd), .sc (.int .i64 f.dem.n), .sc (.int .i64 f.dem.d)])]) () (fun j hj => absurd hj (Nat.not_lt_zero _)) ?_ (fun _ _ => Nat.zero_le _) ?_
  · simp only [↓EVP0, EVQ0, EVQ1, EVQ2, EVQ3, EVQ4, EVA, EVK, EVFD, ↓reduceIte, Nat.reduceEqDiff, Nat.reduceAdd, Nat.reduceSub, Nat.reduceMul, Nat.reduceLT, Nat.reduceLeDiff, reduceCtorEq, Int.reduceToNat, Int.reduceLT, Int.reduceLE, Int.reduceAdd, Int.reduceSub, Int.reduceMul, Int.reduceNeg, Int.reduceEq, Nat.reduceMod, forall_eq_or_imp, forall_eq, forall_const, cond_true, cond_false, decide_true, decide_false, true_imp_iff, implies_true, Int.cast_ofNat_Int, forall_eq']
  intro i _ hi hx
  unfold lb41_0
  simp only [↓EVP0, EVQ0, EVQ1, EVQ2, EVQ3, EVQ4, EVA, EVK, EVFD, ↓reduceIte, Nat.reduceEqDiff, Nat.reduceAdd, Nat.reduceSub, Nat.reduceMul, Nat.reduceLT, Nat.reduceLeDiff, reduceCtorEq, Int.reduceToNat, Int.reduceLT, Int.reduceLE, Int.reduceAdd, Int.reduceSub, Int.reduceMul, Int.reduceNeg, Int.reduceEq, Nat.reduceMod, forall_eq_or_imp, forall_eq, forall_const, cond_true, cond_false, decide_true, decide_false, true_imp_iff, implies_true, Int.cast_ofNat_Int, forall_eq']
  intro hl
  refine ⟨fun hg => ?_, fun hg => ?_⟩
  · have hi2 : i < f.links.length := by have := of_decide_eq_true hg; omega
    refine ⟨⟨by omega, by omega⟩, fun h => ?_, fun h => ⟨by unfold In64; omega, hi2, (), snoc_all hx (of_decide_eq_false h)⟩⟩
    have := tc_yes (j := i) (k := f.links.length) hi2 (Nat.le_refl _) (of_decide_eq_true h)
    rw [List.take_length] at this
    exact this.symm
  · have hi2 : i = f.links.length := by have := of_decide_eq_false hg; omega
    subst hi2
    have := tc_no hx
    rw [List.take_length] at this
    exact this.symm
theorem refA_drop (j : Int) {fs : List Fl} {rs : List Rt} (h : fs.length = rs.length) {i : Nat} (hi : i < fs.length) (S : Rt) :
    refA j (fs.drop i) (rs.drop i) S = refA j (fs.drop (i + 1)) (rs.drop (i + 1)) (if (fs.getD i default).links.contains j = true then (addR S (rs.getD i default)).1 else S) := by
  rw [List.drop_eq_getElem_cons hi, List.drop_eq_getElem_cons (show i < rs.length by omega), List.getD_eq_getElem?_getD, List.getElem?_eq_getElem hi, List.getD_eq_getElem?_getD, List.getElem?_eq_getElem (show i < rs.length by omega)]
  rfl
theorem bd_rtOk {k : Nat} {S : Rt} (h : Bd k S) : RtOk S := by
  have := vld_bnd h.1
  unfold RtOk In64; omega
theorem ev_zero33 : Ev Tryd.prog 40 [] (ratV ⟨0, 1⟩) := by
  unfold ratV
  refine ev_fn Tryd.func40 comp40 (show 0 ≤ Tryd.f40.ntmps by decide) ?_; unfold cf40 rf40; simp only [↓EVP0, EVQ0, EVQ1, EVQ2, EVQ3, EVQ4, EVA, EVK, EVFD, ↓reduceIte, Nat.reduceEqDiff, Nat.reduceAdd, Nat.reduceSub, Nat.reduceMul, Nat.reduceLT, Nat.reduceLeDiff, reduceCtorEq, Int.reduceToNat, Int.reduceLT, Int.reduceLE, Int.reduceAdd, Int.reduceSub, Int.reduceMul, Int.reduceNeg, Int.reduceEq, Nat.reduceMod, forall_eq_or_imp, forall_eq, forall_const, cond_true, cond_false, decide_true, decide_false, true_imp_iff, implies_true, Int.cast_ofNat_Int, forall_eq']
theorem ev_refload (n : Nt) (hV : VldN n) (rates : List Rt) (h2 : rates.length = n.fls.length) (h3 : ∀ r, r ∈ rates → vldR r = true) (h4 : ∀ r, r ∈ rates → SmR r) (h5 : rates.length ≤ 7) (j : Int) : Ev Tryd.prog 22 [netV n, ratsV rates, .sc (.int .i64 j)] (ratV (refA j n.fls rates ⟨0, 1⟩)) := by
  have hz := ev_zero33
  have hfl := fun f (hf : f ∈ n.fls) => links_len hV hf
  unfold netV ratsV ratV at *
  refine ev_fn Tryd.func22 comp22 (show 3 ≤ Tryd.f22.ntmps by decide) ?_; unfold cf22 rf22; simp only [↓EVP0, EVQ0, EVQ1, EVQ2, EVQ3, EVQ4, EVA, EVK, EVFD, ↓reduceIte, Nat.reduceEqDiff, Nat.reduceAdd, Nat.reduceSub, Nat.reduceMul, Nat.reduceLT, Nat.reduceLeDiff, reduceCtorEq, Int.reduceToNat, Int.reduceLT, Int.reduceLE, Int.reduceAdd, Int.reduceSub, Int.reduceMul, Int.reduceNeg, Int.reduceEq, Nat.reduceMod, forall_eq_or_imp, forall_eq, forall_const, cond_true, cond_false, decide_true, decide_false, true_imp_iff, implies_true, Int.cast_ofNat_Int, forall_eq']
  refine callK_ro (hz) ?_ ?_
  · simp only [↓EVP0, EVQ0, EVQ1, EVQ2, EVQ3, EVQ4, EVA, EVK, EVFD, ↓reduceIte, Nat.reduceEqDiff, Nat.reduceAdd, Nat.reduceSub, Nat.reduceMul, Nat.reduceLT, Nat.reduceLeDiff, reduceCtorEq, Int.reduceToNat, Int.reduceLT, Int.reduceLE, Int.reduceAdd, Int.reduceSub, Int.reduceMul, Int.reduceNeg, Int.reduceEq, Nat.reduceMod, forall_eq_or_imp, forall_eq, forall_const, cond_true, cond_false, decide_true, decide_false, true_imp_iff, implies_true, Int.cast_ofNat_Int, forall_eq']
  simp only [↓EVP0, EVQ0, EVQ1, EVQ2, EVQ3, EVQ4, EVA, EVK, EVFD, ↓reduceIte, Nat.reduceEqDiff, Nat.reduceAdd, Nat.reduceSub, Nat.reduceMul, Nat.reduceLT, Nat.reduceLeDiff, reduceCtorEq, Int.reduceToNat, Int.reduceLT, Int.reduceLE, Int.reduceAdd, Int.reduceSub, Int.reduceMul, Int.reduceNeg, Int.reduceEq, Nat.reduceMod, forall_eq_or_imp, forall_eq, forall_const, cond_true, cond_false, decide_true, decide_false, true_imp_iff, implies_true, Int.cast_ofNat_Int, forall_eq']
  refine lwp_for (α := Rt) n.fls.length (fun i S => Bd i S ∧ refA j (n.fls.drop i) (rates.drop i) S = refA j n.fls rates ⟨0, 1⟩) (fun i _ => [(1, .rsl 2 rates.length (rtsF rates)), (2, .sc (.int .i64 j)), (3, .ptr 0 0 0 0 0), (6, .ptr 1 0 0 0 0), (7, .ptr 2 0 0 0 0), (8, .sc (.int .i64 i))])
    (fun _ S => [(0, .box [.rsl 2 n.caps.length (rtsF n.caps), .rsl 4 n.fls.length (flsF n.fls)]), (0, .box [.sc (.int .i64 0), .sc (.int .i64 0)]), (0, .box [.sc (.int .i64 S.n), .sc (.int .i64 S.d)])]) ⟨0, 1⟩ ⟨bd_zero, rfl⟩ ?_ (fun _ _ => Nat.zero_le _) ?_
  · simp only [↓EVP0, EVQ0, EVQ1, EVQ2, EVQ3, EVQ4, EVA, EVK, EVFD, ↓reduceIte, Nat.reduceEqDiff, Nat.reduceAdd, Nat.reduceSub, Nat.reduceMul, Nat.reduceLT, Nat.reduceLeDiff, reduceCtorEq, Int.reduceToNat, Int.reduceLT, Int.reduceLE, Int.reduceAdd, Int.reduceSub, Int.reduceMul, Int.reduceNeg, Int.reduceEq, Nat.reduceMod, forall_eq_or_imp, forall_eq, forall_const, cond_true, cond_false, decide_true, decide_false, true_imp_iff, implies_true, Int.cast_ofNat_Int, forall_eq']
  rintro i S hi ⟨hB, hx⟩
  unfold lb22_0
  simp only [↓EVP0, EVQ0, EVQ1, EVQ2, EVQ3, EVQ4, EVA, EVK, EVFD, ↓reduceIte, Nat.reduceEqDiff, Nat.reduceAdd, Nat.reduceSub, Nat.reduceMul, Nat.reduceLT, Nat.reduceLeDiff, reduceCtorEq, Int.reduceToNat, Int.reduceLT, Int.reduceLE, Int.reduceAdd, Int.reduceSub, Int.reduceMul, Int.reduceNeg, Int.reduceEq, Nat.reduceMod, forall_eq_or_imp, forall_eq, forall_const, cond_true, cond_false, decide_true, decide_false, true_imp_iff, implies_true, Int.cast_ofNat_Int, forall_eq']
  intro _
  refine ⟨fun hg => ?_, fun hg => ?_⟩
  · have hi2 : i < n.fls.length := by have := of_decide_eq_true hg; omega
    have hu := ev_uses (n.fls.getD i default) j
    have hr := h3 _ (getD_mem default (show i < rates.length by omega))
    have hs := h4 _ (getD_mem default (show i < rates.length by omega))
    have ha := ev_add3 (by omega) hB hr hs
    have hd := refA_drop j h2.symm hi2 S
    rw [hx] at hd
    obtain ⟨b1, b2⟩ := add_bd (by omega) hB hr hs
    unfold flL at hu
    unfold rrV ratV at ha
    refine ⟨⟨by omega, by omega⟩, ?_⟩
    refine callK_ro (hu) ?_ ?_
    · simp only [↓EVP0, EVQ0, EVQ1, EVQ2, EVQ3, EVQ4, EVA, EVK, EVFD, ↓reduceIte, Nat.reduceEqDiff, Nat.reduceAdd, Nat.reduceSub, Nat.reduceMul, Nat.reduceLT, Nat.reduceLeDiff, reduceCtorEq, Int.reduceToNat, Int.reduceLT, Int.reduceLE, Int.reduceAdd, Int.reduceSub, Int.reduceMul, Int.reduceNeg, Int.reduceEq, Nat.reduceMod, forall_eq_or_imp, forall_eq, forall_const, cond_true, cond_false, decide_true, decide_false, true_imp_iff, implies_true, Int.cast_ofNat_Int, forall_eq']
    simp only [↓EVP0, EVQ0, EVQ1, EVQ2, EVQ3, EVQ4, EVA, EVK, EVFD, ↓reduceIte, Nat.reduceEqDiff, Nat.reduceAdd, Nat.reduceSub, Nat.reduceMul, Nat.reduceLT, Nat.reduceLeDiff, reduceCtorEq, Int.reduceToNat, Int.reduceLT, Int.reduceLE, Int.reduceAdd, Int.reduceSub, Int.reduceMul, Int.reduceNeg, Int.reduceEq, Nat.reduceMod, forall_eq_or_imp, forall_eq, forall_const, cond_true, cond_false, decide_true, decide_false, true_imp_iff, implies_true, Int.cast_ofNat_Int, forall_eq']
    refine ⟨fun hg2 => ⟨⟨by omega, by omega⟩, ?_⟩, fun hg2 => ?_⟩
    · rw [if_pos hg2] at hd
      first | refine qCallK_ro (ha) ?_ ?_ | refine eCallK_ro (ha) ?_ ?_
      · simp only [↓EVP0, EVQ0, EVQ1, EVQ2, EVQ3, EVQ4, EVA, EVK, EVFD, ↓reduceIte, Nat.reduceEqDiff, Nat.reduceAdd, Nat.reduceSub, Nat.reduceMul, Nat.reduceLT, Nat.reduceLeDiff, reduceCtorEq, Int.reduceToNat, Int.reduceLT, Int.reduceLE, Int.reduceAdd, Int.reduceSub, Int.reduceMul, Int.reduceNeg, Int.reduceEq, Nat.reduceMod, forall_eq_or_imp, forall_eq, forall_const, cond_true, cond_false, decide_true, decide_false, true_imp_iff, implies_true, Int.cast_ofNat_Int, forall_eq']
      simp only [↓EVP0, EVQ0, EVQ1, EVQ2, EVQ3, EVQ4, EVA, EVK, EVFD, ↓reduceIte, Nat.reduceEqDiff, Nat.reduceAdd, Nat.reduceSub, Nat.reduceMul, Nat.reduceLT, Nat.reduceLeDiff, reduceCtorEq, Int.reduceToNat, Int.reduceLT, Int.reduceLE, Int.reduceAdd, Int.reduceSub, Int.reduceMul, Int.reduceNeg, Int.reduceEq, Nat.reduceMod, forall_eq_or_imp, forall_eq, forall_const, cond_true, cond_false, decide_true, decide_false, true_imp_iff, implies_true, Int.cast_ofNat_Int, forall_eq']
      exact ⟨by unfold In64; omega, hi2, _, ⟨b2, hd.symm⟩, rfl⟩
    · rw [hg2] at hd
      exact ⟨by unfold In64; omega, hi2, _, ⟨bd_succ hB, hd.symm⟩, rfl⟩
  · have hi2 : i = n.fls.length := by have := of_decide_eq_false hg; omega
    subst hi2
    rw [List.drop_length] at hx
    have e : refA j [] (rates.drop n.fls.length) S = S := rfl
    rw [← hx, e]
    exact ⟨rfl, rfl⟩
theorem ev_same33 (a b : Rt) (h : fullR a = fullR b) : Ev Tryd.prog 21 [ratV a, ratV b] (.sc (.bool true)) := by
  have f1 := ev_full a
  have f2 := ev_full b
  rw [h] at f1
  unfold ratV at *
  refine ev_fn Tryd.func21 comp21 (show 2 ≤ Tryd.f21.ntmps by decide) ?_; unfold cf21 rf21; simp only [↓EVP0, EVQ0, EVQ1, EVQ2, EVQ3, EVQ4, EVA, EVK, EVFD, ↓reduceIte, Nat.reduceEqDiff, Nat.reduceAdd, Nat.reduceSub, Nat.reduceMul, Nat.reduceLT, Nat.reduceLeDiff, reduceCtorEq, Int.reduceToNat, Int.reduceLT, Int.reduceLE, Int.reduceAdd, Int.reduceSub, Int.reduceMul, Int.reduceNeg, Int.reduceEq, Nat.reduceMod, forall_eq_or_imp, forall_eq, forall_const, cond_true, cond_false, decide_true, decide_false, true_imp_iff, implies_true, Int.cast_ofNat_Int, forall_eq']
  first | refine qCallK_ro (f1) ?_ ?_ | refine eCallK_ro (f1) ?_ ?_
  · simp only [↓EVP0, EVQ0, EVQ1, EVQ2, EVQ3, EVQ4, EVA, EVK, EVFD, ↓reduceIte, Nat.reduceEqDiff, Nat.reduceAdd, Nat.reduceSub, Nat.reduceMul, Nat.reduceLT, Nat.reduceLeDiff, reduceCtorEq, Int.reduceToNat, Int.reduceLT, Int.reduceLE, Int.reduceAdd, Int.reduceSub, Int.reduceMul, Int.reduceNeg, Int.reduceEq, Nat.reduceMod, forall_eq_or_imp, forall_eq, forall_const, cond_true, cond_false, decide_true, decide_false, true_imp_iff, implies_true, Int.cast_ofNat_Int, forall_eq']
  simp only [↓EVP0, EVQ0, EVQ1, EVQ2, EVQ3, EVQ4, EVA, EVK, EVFD, ↓reduceIte, Nat.reduceEqDiff, Nat.reduceAdd, Nat.reduceSub, Nat.reduceMul, Nat.reduceLT, Nat.reduceLeDiff, reduceCtorEq, Int.reduceToNat, Int.reduceLT, Int.reduceLE, Int.reduceAdd, Int.reduceSub, Int.reduceMul, Int.reduceNeg, Int.reduceEq, Nat.reduceMod, forall_eq_or_imp, forall_eq, forall_const, cond_true, cond_false, decide_true, decide_false, true_imp_iff, implies_true, Int.cast_ofNat_Int, forall_eq']
  first | refine qCallK_ro (f2) ?_ ?_ | refine eCallK_ro (f2) ?_ ?_
  · simp only [↓EVP0, EVQ0, EVQ1, EVQ2, EVQ3, EVQ4, EVA, EVK, EVFD, ↓reduceIte, Nat.reduceEqDiff, Nat.reduceAdd, Nat.reduceSub, Nat.reduceMul, Nat.reduceLT, Nat.reduceLeDiff, reduceCtorEq, Int.reduceToNat, Int.reduceLT, Int.reduceLE, Int.reduceAdd, Int.reduceSub, Int.reduceMul, Int.reduceNeg, Int.reduceEq, Nat.reduceMod, forall_eq_or_imp, forall_eq, forall_const, cond_true, cond_false, decide_true, decide_false, true_imp_iff, implies_true, Int.cast_ofNat_Int, forall_eq']
  simp only [↓EVP0, EVQ0, EVQ1, EVQ2, EVQ3, EVQ4, EVA, EVK, EVFD, ↓reduceIte, Nat.reduceEqDiff, Nat.reduceAdd, Nat.reduceSub, Nat.reduceMul, Nat.reduceLT, Nat.reduceLeDiff, reduceCtorEq, Int.reduceToNat, Int.reduceLT, Int.reduceLE, Int.reduceAdd, Int.reduceSub, Int.reduceMul, Int.reduceNeg, Int.reduceEq, Nat.reduceMod, forall_eq_or_imp, forall_eq, forall_const, cond_true, cond_false, decide_true, decide_false, true_imp_iff, implies_true, Int.cast_ofNat_Int, forall_eq']
theorem ev_vldall (l : List Rt) (hl : ∀ r, r ∈ l → RtOk r) : Ev Tryd.prog 18 [ratsV l] (.sc (.bool (l.all vldR))) := by
  unfold ratsV
  refine ev_fn Tryd.func18 comp18 (show 1 ≤ Tryd.f18.ntmps by decide) ?_; unfold cf18 rf18; simp only [↓EVP0, EVQ0, EVQ1, EVQ2, EVQ3, EVQ4, EVA, EVK, EVFD, ↓reduceIte, Nat.reduceEqDiff, Nat.reduceAdd, Nat.reduceSub, Nat.reduceMul, Nat.reduceLT, Nat.reduceLeDiff, reduceCtorEq, Int.reduceToNat, Int.reduceLT, Int.reduceLE, Int.reduceAdd, Int.reduceSub, Int.reduceMul, Int.reduceNeg, Int.reduceEq, Nat.reduceMod, forall_eq_or_imp, forall_eq, forall_const, cond_true, cond_false, decide_true, decide_false, true_imp_iff, implies_true, Int.cast_ofNat_Int, forall_eq']
  intro _
  refine lwp_for (α := Unit) l.length (fun i _ => ∀ j, j < i → vldR (l.getD j default) = true) (fun i _ => [(5, .rsl 2 l.length (rtsF l)), (6, .sc (.int .i64 l.length)), (7, .sc (.int .i64 i))])
    (fun _ _ => []) () (fun j hj => absurd hj (Nat.not_lt_zero _)) ?_ (fun _ _ => Nat.zero_le _) ?_
  · simp only [↓EVP0, EVQ0, EVQ1, EVQ2, EVQ3, EVQ4, EVA, EVK, EVFD, ↓reduceIte, Nat.reduceEqDiff, Nat.reduceAdd, Nat.reduceSub, Nat.reduceMul, Nat.reduceLT, Nat.reduceLeDiff, reduceCtorEq, Int.reduceToNat, Int.reduceLT, Int.reduceLE, Int.reduceAdd, Int.reduceSub, Int.reduceMul, Int.reduceNeg, Int.reduceEq, Nat.reduceMod, forall_eq_or_imp, forall_eq, forall_const, cond_true, cond_false, decide_true, decide_false, true_imp_iff, implies_true, Int.cast_ofNat_Int, forall_eq']
  intro i _ hi hx
  unfold lb18_0
  simp only [↓EVP0, EVQ0, EVQ1, EVQ2, EVQ3, EVQ4, EVA, EVK, EVFD, ↓reduceIte, Nat.reduceEqDiff, Nat.reduceAdd, Nat.reduceSub, Nat.reduceMul, Nat.reduceLT, Nat.reduceLeDiff, reduceCtorEq, Int.reduceToNat, Int.reduceLT, Int.reduceLE, Int.reduceAdd, Int.reduceSub, Int.reduceMul, Int.reduceNeg, Int.reduceEq, Nat.reduceMod, forall_eq_or_imp, forall_eq, forall_const, cond_true, cond_false, decide_true, decide_false, true_imp_iff, implies_true, Int.cast_ofNat_Int, forall_eq']
  refine ⟨fun hg => ?_, fun hg => ?_⟩
  · have hi2 : i < l.length := by have := of_decide_eq_true hg; omega
    have h1 := ev_valid _ (hl _ (getD_mem default hi2))
    unfold ratV at h1
    refine ⟨⟨by omega, by omega⟩, ?_⟩
    refine callK_ro (h1) ?_ ?_
    · simp only [↓EVP0, EVQ0, EVQ1, EVQ2, EVQ3, EVQ4, EVA, EVK, EVFD, ↓reduceIte, Nat.reduceEqDiff, Nat.reduceAdd, Nat.reduceSub, Nat.reduceMul, Nat.reduceLT, Nat.reduceLeDiff, reduceCtorEq, Int.reduceToNat, Int.reduceLT, Int.reduceLE, Int.reduceAdd, Int.reduceSub, Int.reduceMul, Int.reduceNeg, Int.reduceEq, Nat.reduceMod, forall_eq_or_imp, forall_eq, forall_const, cond_true, cond_false, decide_true, decide_false, true_imp_iff, implies_true, Int.cast_ofNat_Int, forall_eq']
    simp only [↓EVP0, EVQ0, EVQ1, EVQ2, EVQ3, EVQ4, EVA, EVK, EVFD, ↓reduceIte, Nat.reduceEqDiff, Nat.reduceAdd, Nat.reduceSub, Nat.reduceMul, Nat.reduceLT, Nat.reduceLeDiff, reduceCtorEq, Int.reduceToNat, Int.reduceLT, Int.reduceLE, Int.reduceAdd, Int.reduceSub, Int.reduceMul, Int.reduceNeg, Int.reduceEq, Nat.reduceMod, forall_eq_or_imp, forall_eq, forall_const, cond_true, cond_false, decide_true, decide_false, true_imp_iff, implies_true, Int.cast_ofNat_Int, forall_eq']
    refine ⟨fun h => ?_, fun h => ⟨by unfold In64; omega, hi2, (), snoc_all hx (notF h)⟩⟩
    exact (all_no hi2 (notT h)).symm
  · have hi2 : i = l.length := by have := of_decide_eq_false hg; omega
    subst hi2
    exact (all_yes hx).symm
def smB (r : Rt) : Bool := !(bif bif decide (256 < r.n) then true else decide (r.n < -256) then true else decide (16 < r.d))
theorem smB_iff {r : Rt} (h : smB r = true) : SmR r := by
  unfold smB at h
  unfold SmR
  by_cases a : 256 < r.n
  · rw [decide_eq_true a] at h; simp at h
  by_cases b : r.n < -256
  · rw [decide_eq_true b, decide_eq_false a] at h; simp at h
  by_cases c : 16 < r.d
  · rw [decide_eq_true c, decide_eq_false a, decide_eq_false b] at h; simp at h
  omega
theorem ev_small33 (l : List Rt) : Ev Tryd.prog 19 [ratsV l] (.sc (.bool (l.all smB && decide (l.length ≤ 7)))) := by
  unfold ratsV
  refine ev_fn Tryd.func19 comp19 (show 1 ≤ Tryd.f19.ntmps by decide) ?_; unfold cf19 rf19; simp only [↓EVP0, EVQ0, EVQ1, EVQ2, EVQ3, EVQ4, EVA, EVK, EVFD, ↓reduceIte, Nat.reduceEqDiff, Nat.reduceAdd, Nat.reduceSub, Nat.reduceMul, Nat.reduceLT, Nat.reduceLeDiff, reduceCtorEq, Int.reduceToNat, Int.reduceLT, Int.reduceLE, Int.reduceAdd, Int.reduceSub, Int.reduceMul, Int.reduceNeg, Int.reduceEq, Nat.reduceMod, forall_eq_or_imp, forall_eq, forall_const, cond_true, cond_false, decide_true, decide_false, true_imp_iff, implies_true, Int.cast_ofNat_Int, forall_eq']
  intro _
  refine lwp_for (α := Unit) l.length (fun i _ => ∀ j, j < i → smB (l.getD j default) = true) (fun i _ => [(0, .rsl 2 l.length (rtsF l)), (5, .rsl 2 l.length (rtsF l)), (6, .sc (.int .i64 l.length)), (7, .sc (.int .i64 i))])
    (fun _ _ => []) () (fun j hj => absurd hj (Nat.not_lt_zero _)) ?_ (fun _ _ => Nat.zero_le _) ?_
  · simp only [↓EVP0, EVQ0, EVQ1, EVQ2, EVQ3, EVQ4, EVA, EVK, EVFD, ↓reduceIte, Nat.reduceEqDiff, Nat.reduceAdd, Nat.reduceSub, Nat.reduceMul, Nat.reduceLT, Nat.reduceLeDiff, reduceCtorEq, Int.reduceToNat, Int.reduceLT, Int.reduceLE, Int.reduceAdd, Int.reduceSub, Int.reduceMul, Int.reduceNeg, Int.reduceEq, Nat.reduceMod, forall_eq_or_imp, forall_eq, forall_const, cond_true, cond_false, decide_true, decide_false, true_imp_iff, implies_true, Int.cast_ofNat_Int, forall_eq']
  intro i _ hi hx
  unfold lb19_0
  simp only [↓EVP0, EVQ0, EVQ1, EVQ2, EVQ3, EVQ4, EVA, EVK, EVFD, ↓reduceIte, Nat.reduceEqDiff, Nat.reduceAdd, Nat.reduceSub, Nat.reduceMul, Nat.reduceLT, Nat.reduceLeDiff, reduceCtorEq, Int.reduceToNat, Int.reduceLT, Int.reduceLE, Int.reduceAdd, Int.reduceSub, Int.reduceMul, Int.reduceNeg, Int.reduceEq, Nat.reduceMod, forall_eq_or_imp, forall_eq, forall_const, cond_true, cond_false, decide_true, decide_false, true_imp_iff, implies_true, Int.cast_ofNat_Int, forall_eq']
  refine ⟨fun hg => ?_, fun hg => ?_⟩
  · have hi2 : i < l.length := by have := of_decide_eq_true hg; omega
    refine ⟨⟨by omega, by omega⟩, fun h => ?_, fun h => ⟨by unfold In64; omega, hi2, (), snoc_all hx (by unfold smB; rw [h]; rfl)⟩⟩
    rw [all_no hi2 (by unfold smB; rw [h]; rfl)]; rfl
  · have hi2 : i = l.length := by have := of_decide_eq_false hg; omega
    subst hi2
    rw [all_yes hx, Bool.true_and]
    exact fun _ => decide_eq_decide.2 (show ((l.length : Int) ≤ 7 ↔ l.length ≤ 7) by omega)
theorem ev_rats33 (l : List Rt) (hl : l.length ≤ 40) : Ev Tryd.prog 20 [ratsV l] (ratsV l) := by
  unfold ratsV
  refine ev_fn Tryd.func20 comp20 (show 1 ≤ Tryd.f20.ntmps by decide) ?_; unfold cf20 rf20; simp only [↓EVP0, EVQ0, EVQ1, EVQ2, EVQ3, EVQ4, EVA, EVK, EVFD, ↓reduceIte, Nat.reduceEqDiff, Nat.reduceAdd, Nat.reduceSub, Nat.reduceMul, Nat.reduceLT, Nat.reduceLeDiff, reduceCtorEq, Int.reduceToNat, Int.reduceLT, Int.reduceLE, Int.reduceAdd, Int.reduceSub, Int.reduceMul, Int.reduceNeg, Int.reduceEq, Nat.reduceMod, forall_eq_or_imp, forall_eq, forall_const, cond_true, cond_false, decide_true, decide_false, true_imp_iff, implies_true, Int.cast_ofNat_Int, forall_eq']
  intro _
  refine lwp_for (α := Unit) l.length (fun i _ => True) (fun i _ => [(3, if i = 0 then .nsl else .sl 2 (i - 1) 2 0 i), (6, .rsl 2 l.length (rtsF l)), (7, .sc (.int .i64 l.length)), (8, .sc (.int .i64 i))])
    (fun i _ => if i = 0 then [] else [(0, .box (rtsF l 0)), (0, .row 2 1 (fun i => List.take 2 (List.drop (i * 2) (rtsF l 0)))), (i - 1, .row 2 i (apF 2 (rtsF l) i))]) () trivial ?_ (fun _ _ => Nat.zero_le _) ?_
  · simp only [if_true]
    simp only [↓EVP0, EVQ0, EVQ1, EVQ2, EVQ3, EVQ4, EVA, EVK, EVFD, ↓reduceIte, Nat.reduceEqDiff, Nat.reduceAdd, Nat.reduceSub, Nat.reduceMul, Nat.reduceLT, Nat.reduceLeDiff, reduceCtorEq, Int.reduceToNat, Int.reduceLT, Int.reduceLE, Int.reduceAdd, Int.reduceSub, Int.reduceMul, Int.reduceNeg, Int.reduceEq, Nat.reduceMod, forall_eq_or_imp, forall_eq, forall_const, cond_true, cond_false, decide_true, decide_false, true_imp_iff, implies_true, Int.cast_ofNat_Int, forall_eq']
  intro m _ hi _
  cases m with
  | zero =>
    simp only [if_true]
    unfold lb20_0
    simp only [↓EVP0, EVQ0, EVQ1, EVQ2, EVQ3, EVQ4, EVA, EVK, EVFD, ↓reduceIte, Nat.reduceEqDiff, Nat.reduceAdd, Nat.reduceSub, Nat.reduceMul, Nat.reduceLT, Nat.reduceLeDiff, reduceCtorEq, Int.reduceToNat, Int.reduceLT, Int.reduceLE, Int.reduceAdd, Int.reduceSub, Int.reduceMul, Int.reduceNeg, Int.reduceEq, Nat.reduceMod, forall_eq_or_imp, forall_eq, forall_const, cond_true, cond_false, decide_true, decide_false, true_imp_iff, implies_true, Int.cast_ofNat_Int, forall_eq']
    refine ⟨fun hg2 => ?_, fun hg2 => ?_⟩
    · have hi2 : 0 < l.length := by have := of_decide_eq_true hg2; omega
      exact ⟨by omega, bsF_len rfl, by unfold appRoom; omega, by unfold In64; omega, hi2, (), bs_all, rfl, ap_allR⟩
    · have hcl : l.length = 0 := by have := of_decide_eq_false hg2; omega
      exact hcl
  | succ m =>
    simp only [show ¬ m + 1 = 0 by omega, if_false]
    unfold lb20_0
    simp only [↓EVP0, EVQ0, EVQ1, EVQ2, EVQ3, EVQ4, EVA, EVK, EVFD, ↓reduceIte, Nat.reduceEqDiff, Nat.reduceAdd, Nat.reduceSub, Nat.reduceMul, Nat.reduceLT, Nat.reduceLeDiff, reduceCtorEq, Int.reduceToNat, Int.reduceLT, Int.reduceLE, Int.reduceAdd, Int.reduceSub, Int.reduceMul, Int.reduceNeg, Int.reduceEq, Nat.reduceMod, forall_eq_or_imp, forall_eq, forall_const, cond_true, cond_false, decide_true, decide_false, true_imp_iff, implies_true, Int.cast_ofNat_Int, forall_eq']
    have ecast : ((m : Int) + 1).toNat = m + 1 := by omega
    rw [ecast]
    refine ⟨fun hg2 => ?_, fun hg2 => ?_⟩
    · have hi2 : m + 1 < l.length := by have := of_decide_eq_true hg2; omega
      exact ⟨⟨by omega, by omega⟩, bsF_len rfl, ⟨Nat.le_refl _, fun k hk => by rw [apF_rt hk]; rfl⟩, by unfold appRoom; omega, by unfold In64; omega, hi2, (), by rw [show m + 1 - 1 + 1 = m + 1 + 1 - 1 by omega], bs_all, ⟨by omega, rfl⟩, ap_allR⟩
    · have hcl : l.length = m + 1 := by have := of_decide_eq_false hg2; omega
      exact ⟨hcl, ⟨Nat.le_refl _, fun i hi => by rw [apF_rt hi]; rfl⟩, fun i hi => apF_rt hi⟩
theorem ev_reffeas (n : Nt) (h1 : vldN n = true) (rates : List Rt) (h2 : rates.length = n.fls.length) (h3 : ∀ r, r ∈ rates → vldR r = true) (h4 : ∀ r, r ∈ rates → SmR r) (h5 : rates.length ≤ 7) (h6 : ∀ c, c ∈ n.caps → SmR c)
    (h7 : ∀ f, f ∈ n.fls → f.dem.n ≤ 536870912 ∧ f.dem.d ≤ 536870912) : Ev Tryd.prog 23 [netV n, ratsV rates] (.sc (.bool (feasB n rates))) := by
  have hV := vldN_of h1
  have hld := fun j => ev_refload n hV rates h2 h3 h4 h5 j
  unfold netV ratsV ratV at *
  refine ev_fn Tryd.func23 comp23 (show 2 ≤ Tryd.f23.ntmps by decide) ?_; unfold cf23 rf23; simp only [↓EVP0, EVQ0, EVQ1, EVQ2, EVQ3, EVQ4, EVA, EVK, EVFD, ↓reduceIte, Nat.reduceEqDiff, Nat.reduceAdd, Nat.reduceSub, Nat.reduceMul, Nat.reduceLT, Nat.reduceLeDiff, reduceCtorEq, Int.reduceToNat, Int.reduceLT, Int.reduceLE, Int.reduceAdd, Int.reduceSub, Int.reduceMul, Int.reduceNeg, Int.reduceEq, Nat.reduceMod, forall_eq_or_imp, forall_eq, forall_const, cond_true, cond_false, decide_true, decide_false, true_imp_iff, implies_true, Int.cast_ofNat_Int, forall_eq']
  intro hr1 hf1
  refine ⟨fun hg => by rw [decide_eq_true (show (rates.length : Int) = n.fls.length by omega)] at hg; simp at hg, fun _ => ?_⟩
  have e0 := load_small h1 h2 h3 h4 h5
  obtain ⟨s1, s2, _⟩ := load_sum e0
  have hfe : feasB n rates = ((List.range n.fls.length).all (bndB n rates) && (List.range n.caps.length).all fun i => decide (cmpR ((loadE n rates).1.getD i default) (n.caps.getD i default) ≤ 0)) := by
    unfold feasB; rw [decide_eq_true e0]; rfl
  refine lwp_for (α := Unit) rates.length (fun i _ => ∀ j, j < i → bndB n rates j = true) (fun i _ => [(1, .rsl 2 rates.length (rtsF rates)), (2, .ptr 0 0 0 0 0), (5, .sc (.int .i64 i))])
    (fun i _ => [(0, .box [.rsl 2 n.caps.length (rtsF n.caps), .rsl 4 n.fls.length (flsF n.fls)])]) () (fun j hj => absurd hj (Nat.not_lt_zero _)) ?_ (fun _ _ => Nat.zero_le _) ?_
  · simp only [↓EVP0, EVQ0, EVQ1, EVQ2, EVQ3, EVQ4, EVA, EVK, EVFD, ↓reduceIte, Nat.reduceEqDiff, Nat.reduceAdd, Nat.reduceSub, Nat.reduceMul, Nat.reduceLT, Nat.reduceLeDiff, reduceCtorEq, Int.reduceToNat, Int.reduceLT, Int.reduceLE, Int.reduceAdd, Int.reduceSub, Int.reduceMul, Int.reduceNeg, Int.reduceEq, Nat.reduceMod, forall_eq_or_imp, forall_eq, forall_const, cond_true, cond_false, decide_true, decide_false, true_imp_iff, implies_true, Int.cast_ofNat_Int, forall_eq']
  intro i _ hi hx
  unfold lb23_1
  simp only [↓EVP0, EVQ0, EVQ1, EVQ2, EVQ3, EVQ4, EVA, EVK, EVFD, ↓reduceIte, Nat.reduceEqDiff, Nat.reduceAdd, Nat.reduceSub, Nat.reduceMul, Nat.reduceLT, Nat.reduceLeDiff, reduceCtorEq, Int.reduceToNat, Int.reduceLT, Int.reduceLE, Int.reduceAdd, Int.reduceSub, Int.reduceMul, Int.reduceNeg, Int.reduceEq, Nat.reduceMod, forall_eq_or_imp, forall_eq, forall_const, cond_true, cond_false, decide_true, decide_false, true_imp_iff, implies_true, Int.cast_ofNat_Int, forall_eq']
  intro _
  refine ⟨fun hg2 => ?_, fun hg2 => ?_⟩
  · have hi2 : i < rates.length := by have := of_decide_eq_true hg2; omega
    have hm := getD_mem default hi2
    have hmf := getD_mem (default : Fl) (show i < n.fls.length by omega)
    have k1 := ev_fits33 (rates.getD i default)
    have hd := hV.dem _ hmf
    have hSm : ∀ r, vldR r = true → SmR r → Sm r := fun r a b => by
      have := vld_bnd a
      unfold SmR at b
      exact ⟨a, by unfold In29; omega, by unfold In29; omega⟩
    have k2 := ev_rcmp (rates.getD i default) (n.fls.getD i default).dem (hSm _ (h3 _ hm) (h4 _ hm)) ⟨hd.1, by have := h7 _ hmf; have := hd.2.1; unfold In29; omega, by have := h7 _ hmf; have := vld_bnd hd.1; unfold In29; omega⟩
    rw [full_nrm (h3 _ hm), full_nrm hd.1, ← cmpR_E (h3 _ hm) hd.1] at k2
    rw [h3 _ hm, Bool.true_and] at k1
    unfold ratV at k1 k2
    refine ⟨⟨by omega, by omega⟩, ?_⟩
    first | refine qCallK_ro (k1) ?_ ?_ | refine eCallK_ro (k1) ?_ ?_
    · simp only [↓EVP0, EVQ0, EVQ1, EVQ2, EVQ3, EVQ4, EVA, EVK, EVFD, ↓reduceIte, Nat.reduceEqDiff, Nat.reduceAdd, Nat.reduceSub, Nat.reduceMul, Nat.reduceLT, Nat.reduceLeDiff, reduceCtorEq, Int.reduceToNat, Int.reduceLT, Int.reduceLE, Int.reduceAdd, Int.reduceSub, Int.reduceMul, Int.reduceNeg, Int.reduceEq, Nat.reduceMod, forall_eq_or_imp, forall_eq, forall_const, cond_true, cond_false, decide_true, decide_false, true_imp_iff, implies_true, Int.cast_ofNat_Int, forall_eq']
    simp only [↓EVP0, EVQ0, EVQ1, EVQ2, EVQ3, EVQ4, EVA, EVK, EVFD, ↓reduceIte, Nat.reduceEqDiff, Nat.reduceAdd, Nat.reduceSub, Nat.reduceMul, Nat.reduceLT, Nat.reduceLeDiff, reduceCtorEq, Int.reduceToNat, Int.reduceLT, Int.reduceLE, Int.reduceAdd, Int.reduceSub, Int.reduceMul, Int.reduceNeg, Int.reduceEq, Nat.reduceMod, forall_eq_or_imp, forall_eq, forall_const, cond_true, cond_false, decide_true, decide_false, true_imp_iff, implies_true, Int.cast_ofNat_Int, forall_eq']
    refine ⟨fun _ => ⟨by omega, by omega⟩, fun _ => ⟨by omega, by omega⟩, fun _ => ⟨by omega, by omega⟩, ?_⟩
    (first | refine lopsQ_gcall ?_ | refine lopsQ_gecl ?_); (simp only [↓EVP0, EVQ0, EVQ1, EVQ2, EVQ3, EVQ4, EVA, EVK, EVFD, ↓reduceIte, Nat.reduceEqDiff, Nat.reduceAdd, Nat.reduceSub, Nat.reduceMul, Nat.reduceLT, Nat.reduceLeDiff, reduceCtorEq, Int.reduceToNat, Int.reduceLT, Int.reduceLE, Int.reduceAdd, Int.reduceSub, Int.reduceMul, Int.reduceNeg, Int.reduceEq, Nat.reduceMod, forall_eq_or_imp, forall_eq, forall_const, cond_true, cond_false, decide_true, decide_false, true_imp_iff, implies_true, Int.cast_ofNat_Int, forall_eq'])
    first | refine gCallK_ro _ (fun _ => k2) (fun _ => ?_) ?_ | refine geCallK_ro _ (fun _ => k2) (fun _ => ?_) ?_
    · simp only [↓EVP0, EVQ0, EVQ1, EVQ2, EVQ3, EVQ4, EVA, EVK, EVFD, ↓reduceIte, Nat.reduceEqDiff, Nat.reduceAdd, Nat.reduceSub, Nat.reduceMul, Nat.reduceLT, Nat.reduceLeDiff, reduceCtorEq, Int.reduceToNat, Int.reduceLT, Int.reduceLE, Int.reduceAdd, Int.reduceSub, Int.reduceMul, Int.reduceNeg, Int.reduceEq, Nat.reduceMod, forall_eq_or_imp, forall_eq, forall_const, cond_true, cond_false, decide_true, decide_false, true_imp_iff, implies_true, Int.cast_ofNat_Int, forall_eq']
    simp only [↓EVP0, EVQ0, EVQ1, EVQ2, EVQ3, EVQ4, EVA, EVK, EVFD, ↓reduceIte, Nat.reduceEqDiff, Nat.reduceAdd, Nat.reduceSub, Nat.reduceMul, Nat.reduceLT, Nat.reduceLeDiff, reduceCtorEq, Int.reduceToNat, Int.reduceLT, Int.reduceLE, Int.reduceAdd, Int.reduceSub, Int.reduceMul, Int.reduceNeg, Int.reduceEq, Nat.reduceMod, forall_eq_or_imp, forall_eq, forall_const, cond_true, cond_false, decide_true, decide_false, true_imp_iff, implies_true, Int.cast_ofNat_Int, forall_eq']
    have hb : (bif !decide (0 ≤ (rates.getD i default).n) then true else bif (n.fls.getD i default).bnd then decide (0 < cmpR (rates.getD i default) (n.fls.getD i default).dem) else false) = !bndB n rates i := by
      unfold bndB
      rw [dec_lt]
      cases decide (0 ≤ (rates.getD i default).n) <;> cases (n.fls.getD i default).bnd <;> simp
    rw [hb]
    refine ⟨fun h => ?_, fun h => ⟨by unfold In64; omega, hi2, (), snoc_all hx (notF h)⟩⟩
    rw [hfe, rng_no (show i < n.fls.length by omega) (notT h)]; rfl
  have hi2 : i = n.fls.length := by have := of_decide_eq_false hg2; omega
  subst hi2
  refine lwp_for (α := Unit) n.caps.length (fun i _ => ∀ j, j < i → decide (cmpR ((loadE n rates).1.getD j default) (n.caps.getD j default) ≤ 0) = true) (fun i _ => [(1, .rsl 2 rates.length (rtsF rates)), (2, .ptr 0 0 0 0 0), (6, .sc (.int .i64 i))])
    (fun i _ => [(0, .box [.rsl 2 n.caps.length (rtsF n.caps), .rsl 4 n.fls.length (flsF n.fls)])]) () (fun j hj => absurd hj (Nat.not_lt_zero _)) ?_ (fun _ _ => Nat.zero_le _) ?_
  · simp only [↓EVP0, EVQ0, EVQ1, EVQ2, EVQ3, EVQ4, EVA, EVK, EVFD, ↓reduceIte, Nat.reduceEqDiff, Nat.reduceAdd, Nat.reduceSub, Nat.reduceMul, Nat.reduceLT, Nat.reduceLeDiff, reduceCtorEq, Int.reduceToNat, Int.reduceLT, Int.reduceLE, Int.reduceAdd, Int.reduceSub, Int.reduceMul, Int.reduceNeg, Int.reduceEq, Nat.reduceMod, forall_eq_or_imp, forall_eq, forall_const, cond_true, cond_false, decide_true, decide_false, true_imp_iff, implies_true, Int.cast_ofNat_Int, forall_eq']
  intro i _ hi hy
  unfold lb23_0
  simp only [↓EVP0, EVQ0, EVQ1, EVQ2, EVQ3, EVQ4, EVA, EVK, EVFD, ↓reduceIte, Nat.reduceEqDiff, Nat.reduceAdd, Nat.reduceSub, Nat.reduceMul, Nat.reduceLT, Nat.reduceLeDiff, reduceCtorEq, Int.reduceToNat, Int.reduceLT, Int.reduceLE, Int.reduceAdd, Int.reduceSub, Int.reduceMul, Int.reduceNeg, Int.reduceEq, Nat.reduceMod, forall_eq_or_imp, forall_eq, forall_const, cond_true, cond_false, decide_true, decide_false, true_imp_iff, implies_true, Int.cast_ofNat_Int, forall_eq']
  intro _
  refine ⟨fun hg2 => ?_, fun hg2 => ?_⟩
  · have hi2 : i < n.caps.length := by have := of_decide_eq_true hg2; omega
    have hm := getD_mem (default : Rt) hi2
    obtain ⟨q1, q2⟩ := refA_law h1 h2 h3 h4 h5 hi2
    have k2 := ev_cmp3 (Nat.le_refl 7) q1 (hV.cap _ hm).1 (h6 _ hm)
    have k1 := hld i
    have k3 : cmpR (refA i n.fls rates ⟨0, 1⟩) (n.caps.getD i default) = cmpR ((loadE n rates).1.getD i default) (n.caps.getD i default) := by
      rw [cmpR_E q1.1 (hV.cap _ hm).1, cmpR_E (s2 _ (getD_mem default (by omega))) (hV.cap _ hm).1, q2]
    rw [k3] at k2
    unfold ratV at k2
    first | refine qCallK_ro (k1) ?_ ?_ | refine eCallK_ro (k1) ?_ ?_
    · simp only [↓EVP0, EVQ0, EVQ1, EVQ2, EVQ3, EVQ4, EVA, EVK, EVFD, ↓reduceIte, Nat.reduceEqDiff, Nat.reduceAdd, Nat.reduceSub, Nat.reduceMul, Nat.reduceLT, Nat.reduceLeDiff, reduceCtorEq, Int.reduceToNat, Int.reduceLT, Int.reduceLE, Int.reduceAdd, Int.reduceSub, Int.reduceMul, Int.reduceNeg, Int.reduceEq, Nat.reduceMod, forall_eq_or_imp, forall_eq, forall_const, cond_true, cond_false, decide_true, decide_false, true_imp_iff, implies_true, Int.cast_ofNat_Int, forall_eq']
    simp only [↓EVP0, EVQ0, EVQ1, EVQ2, EVQ3, EVQ4, EVA, EVK, EVFD, ↓reduceIte, Nat.reduceEqDiff, Nat.reduceAdd, Nat.reduceSub, Nat.reduceMul, Nat.reduceLT, Nat.reduceLeDiff, reduceCtorEq, Int.reduceToNat, Int.reduceLT, Int.reduceLE, Int.reduceAdd, Int.reduceSub, Int.reduceMul, Int.reduceNeg, Int.reduceEq, Nat.reduceMod, forall_eq_or_imp, forall_eq, forall_const, cond_true, cond_false, decide_true, decide_false, true_imp_iff, implies_true, Int.cast_ofNat_Int, forall_eq']
    refine ⟨⟨by omega, by omega⟩, ?_⟩
    first | refine qCallK_ro (k2) ?_ ?_ | refine eCallK_ro (k2) ?_ ?_
    · simp only [↓EVP0, EVQ0, EVQ1, EVQ2, EVQ3, EVQ4, EVA, EVK, EVFD, ↓reduceIte, Nat.reduceEqDiff, Nat.reduceAdd, Nat.reduceSub, Nat.reduceMul, Nat.reduceLT, Nat.reduceLeDiff, reduceCtorEq, Int.reduceToNat, Int.reduceLT, Int.reduceLE, Int.reduceAdd, Int.reduceSub, Int.reduceMul, Int.reduceNeg, Int.reduceEq, Nat.reduceMod, forall_eq_or_imp, forall_eq, forall_const, cond_true, cond_false, decide_true, decide_false, true_imp_iff, implies_true, Int.cast_ofNat_Int, forall_eq']
    simp only [↓EVP0, EVQ0, EVQ1, EVQ2, EVQ3, EVQ4, EVA, EVK, EVFD, ↓reduceIte, Nat.reduceEqDiff, Nat.reduceAdd, Nat.reduceSub, Nat.reduceMul, Nat.reduceLT, Nat.reduceLeDiff, reduceCtorEq, Int.reduceToNat, Int.reduceLT, Int.reduceLE, Int.reduceAdd, Int.reduceSub, Int.reduceMul, Int.reduceNeg, Int.reduceEq, Nat.reduceMod, forall_eq_or_imp, forall_eq, forall_const, cond_true, cond_false, decide_true, decide_false, true_imp_iff, implies_true, Int.cast_ofNat_Int, forall_eq']
    refine ⟨fun h => ?_, fun h => ⟨by unfold In64; omega, hi2, (), snoc_all hy ?_⟩⟩
    · rw [hfe, rng_no (i := i) (n := n.caps.length) hi2 (decide_eq_false (by have := of_decide_eq_true h; omega))]; simp
    · exact decide_eq_true (by have := of_decide_eq_false h; omega)
  have hi2 : i = n.caps.length := by have := of_decide_eq_false hg2; omega
  subst hi2
  rw [hfe, rng_yes hx, rng_yes hy]; rfl
theorem ev_lawLoads (n : Nt) (hn : NtOk n) (rates : List Rt) (hr : ∀ r, r ∈ rates → RtOk r) (l : Int) : Ev Tryd.prog 5 [netV n, ratsV rates, .sc (.int .i64 l)] (.sc (.bool true)) := by
  have h0 := ev_awake33
  have h1 := ev_few33 n
  have h2 := ev_load n hn rates hr
  have h3 := ev_feasible n hn rates hr
  have h4 := ev_full33 n hn rates hr l
  have h5 := ev_validN n hn
  have h6 := ev_vldall rates hr
  have h7 := ev_small33 rates
  have h8 := ev_small33 n.caps
  have h9 := ev_plain33 n
  have h10 := ev_rats33 rates
  have h11 := fun hV a b c d j => ev_refload n hV rates a b c d j
  have h12 := fun a b c d e f g => ev_reffeas n a rates b c d e f g
  unfold lsV netV ratsV at *
  refine ev_fn Tryd.func5 comp5 (show 3 ≤ Tryd.f5.ntmps by decide) ?_; unfold cf5 rf5; simp only [↓EVP0, EVQ0, EVQ1, EVQ2, EVQ3, EVQ4, EVA, EVK, EVFD, ↓reduceIte, Nat.reduceEqDiff, Nat.reduceAdd, Nat.reduceSub, Nat.reduceMul, Nat.reduceLT, Nat.reduceLeDiff, reduceCtorEq, Int.reduceToNat, Int.reduceLT, Int.reduceLE, Int.reduceAdd, Int.reduceSub, Int.reduceMul, Int.reduceNeg, Int.reduceEq, Nat.reduceMod, forall_eq_or_imp, forall_eq, forall_const, cond_true, cond_false, decide_true, decide_false, true_imp_iff, implies_true, Int.cast_ofNat_Int, forall_eq']
  refine callK_ro (h0) ?_ ?_
  · simp only [↓EVP0, EVQ0, EVQ1, EVQ2, EVQ3, EVQ4, EVA, EVK, EVFD, ↓reduceIte, Nat.reduceEqDiff, Nat.reduceAdd, Nat.reduceSub, Nat.reduceMul, Nat.reduceLT, Nat.reduceLeDiff, reduceCtorEq, Int.reduceToNat, Int.reduceLT, Int.reduceLE, Int.reduceAdd, Int.reduceSub, Int.reduceMul, Int.reduceNeg, Int.reduceEq, Nat.reduceMod, forall_eq_or_imp, forall_eq, forall_const, cond_true, cond_false, decide_true, decide_false, true_imp_iff, implies_true, Int.cast_ofNat_Int, forall_eq']
  simp only [↓EVP0, EVQ0, EVQ1, EVQ2, EVQ3, EVQ4, EVA, EVK, EVFD, ↓reduceIte, Nat.reduceEqDiff, Nat.reduceAdd, Nat.reduceSub, Nat.reduceMul, Nat.reduceLT, Nat.reduceLeDiff, reduceCtorEq, Int.reduceToNat, Int.reduceLT, Int.reduceLE, Int.reduceAdd, Int.reduceSub, Int.reduceMul, Int.reduceNeg, Int.reduceEq, Nat.reduceMod, forall_eq_or_imp, forall_eq, forall_const, cond_true, cond_false, decide_true, decide_false, true_imp_iff, implies_true, Int.cast_ofNat_Int, forall_eq']
  (refine lops_ge_imp ?_; simp only [↓EVP0, EVQ0, EVQ1, EVQ2, EVQ3, EVQ4, EVA, EVK, EVFD, ↓reduceIte, Nat.reduceEqDiff, Nat.reduceAdd, Nat.reduceSub, Nat.reduceMul, Nat.reduceLT, Nat.reduceLeDiff, reduceCtorEq, Int.reduceToNat, Int.reduceLT, Int.reduceLE, Int.reduceAdd, Int.reduceSub, Int.reduceMul, Int.reduceNeg, Int.reduceEq, Nat.reduceMod, forall_eq_or_imp, forall_eq, forall_const, cond_true, cond_false, decide_true, decide_false, true_imp_iff, implies_true, Int.cast_ofNat_Int, forall_eq'])
  refine gCallK_ro _ (fun _ => h1) (fun _ => ?_) ?_
  · simp only [↓EVP0, EVQ0, EVQ1, EVQ2, EVQ3, EVQ4, EVA, EVK, EVFD, ↓reduceIte, Nat.reduceEqDiff, Nat.reduceAdd, Nat.reduceSub, Nat.reduceMul, Nat.reduceLT, Nat.reduceLeDiff, reduceCtorEq, Int.reduceToNat, Int.reduceLT, Int.reduceLE, Int.reduceAdd, Int.reduceSub, Int.reduceMul, Int.reduceNeg, Int.reduceEq, Nat.reduceMod, forall_eq_or_imp, forall_eq, forall_const, cond_true, cond_false, decide_true, decide_false, true_imp_iff, implies_true, Int.cast_ofNat_Int, forall_eq']
  simp only [↓EVP0, EVQ0, EVQ1, EVQ2, EVQ3, EVQ4, EVA, EVK, EVFD, ↓reduceIte, Nat.reduceEqDiff, Nat.reduceAdd, Nat.reduceSub, Nat.reduceMul, Nat.reduceLT, Nat.reduceLeDiff, reduceCtorEq, Int.reduceToNat, Int.reduceLT, Int.reduceLE, Int.reduceAdd, Int.reduceSub, Int.reduceMul, Int.reduceNeg, Int.reduceEq, Nat.reduceMod, forall_eq_or_imp, forall_eq, forall_const, cond_true, cond_false, decide_true, decide_false, true_imp_iff, implies_true, Int.cast_ofNat_Int, forall_eq']
  refine ⟨fun hg => ?_, fun hg => ?_⟩
  · refine callK_ro (h0) ?_ ?_
    · simp only [↓EVP0, EVQ0, EVQ1, EVQ2, EVQ3, EVQ4, EVA, EVK, EVFD, ↓reduceIte, Nat.reduceEqDiff, Nat.reduceAdd, Nat.reduceSub, Nat.reduceMul, Nat.reduceLT, Nat.reduceLeDiff, reduceCtorEq, Int.reduceToNat, Int.reduceLT, Int.reduceLE, Int.reduceAdd, Int.reduceSub, Int.reduceMul, Int.reduceNeg, Int.reduceEq, Nat.reduceMod, forall_eq_or_imp, forall_eq, forall_const, cond_true, cond_false, decide_true, decide_false, true_imp_iff, implies_true, Int.cast_ofNat_Int, forall_eq']
    simp only [↓EVP0, EVQ0, EVQ1, EVQ2, EVQ3, EVQ4, EVA, EVK, EVFD, ↓reduceIte, Nat.reduceEqDiff, Nat.reduceAdd, Nat.reduceSub, Nat.reduceMul, Nat.reduceLT, Nat.reduceLeDiff, reduceCtorEq, Int.reduceToNat, Int.reduceLT, Int.reduceLE, Int.reduceAdd, Int.reduceSub, Int.reduceMul, Int.reduceNeg, Int.reduceEq, Nat.reduceMod, forall_eq_or_imp, forall_eq, forall_const, cond_true, cond_false, decide_true, decide_false, true_imp_iff, implies_true, Int.cast_ofNat_Int, forall_eq']
  have e1 : fewB n = true := by
    cases h : fewB n
    · rw [h] at hg; simp at hg
    · rfl
  have er : rates.length ≤ 40 := by
    by_cases h : (40 : Int) < rates.length
    · rw [e1, decide_eq_true h] at hg; simp at hg
    · omega
  obtain ⟨hc40, hf40⟩ := few_of e1
  have h9 := h9 hc40 hf40
  have h10 := h10 er
  refine callK_ro (h2) ?_ ?_
  · simp only [↓EVP0, EVQ0, EVQ1, EVQ2, EVQ3, EVQ4, EVA, EVK, EVFD, ↓reduceIte, Nat.reduceEqDiff, Nat.reduceAdd, Nat.reduceSub, Nat.reduceMul, Nat.reduceLT, Nat.reduceLeDiff, reduceCtorEq, Int.reduceToNat, Int.reduceLT, Int.reduceLE, Int.reduceAdd, Int.reduceSub, Int.reduceMul, Int.reduceNeg, Int.reduceEq, Nat.reduceMod, forall_eq_or_imp, forall_eq, forall_const, cond_true, cond_false, decide_true, decide_false, true_imp_iff, implies_true, Int.cast_ofNat_Int, forall_eq']
  simp only [↓EVP0, EVQ0, EVQ1, EVQ2, EVQ3, EVQ4, EVA, EVK, EVFD, ↓reduceIte, Nat.reduceEqDiff, Nat.reduceAdd, Nat.reduceSub, Nat.reduceMul, Nat.reduceLT, Nat.reduceLeDiff, reduceCtorEq, Int.reduceToNat, Int.reduceLT, Int.reduceLE, Int.reduceAdd, Int.reduceSub, Int.reduceMul, Int.reduceNeg, Int.reduceEq, Nat.reduceMod, forall_eq_or_imp, forall_eq, forall_const, cond_true, cond_false, decide_true, decide_false, true_imp_iff, implies_true, Int.cast_ofNat_Int, forall_eq']
  refine callK_ro (h3) ?_ ?_
  · simp only [↓EVP0, EVQ0, EVQ1, EVQ2, EVQ3, EVQ4, EVA, EVK, EVFD, ↓reduceIte, Nat.reduceEqDiff, Nat.reduceAdd, Nat.reduceSub, Nat.reduceMul, Nat.reduceLT, Nat.reduceLeDiff, reduceCtorEq, Int.reduceToNat, Int.reduceLT, Int.reduceLE, Int.reduceAdd, Int.reduceSub, Int.reduceMul, Int.reduceNeg, Int.reduceEq, Nat.reduceMod, forall_eq_or_imp, forall_eq, forall_const, cond_true, cond_false, decide_true, decide_false, true_imp_iff, implies_true, Int.cast_ofNat_Int, forall_eq']
  simp only [↓EVP0, EVQ0, EVQ1, EVQ2, EVQ3, EVQ4, EVA, EVK, EVFD, ↓reduceIte, Nat.reduceEqDiff, Nat.reduceAdd, Nat.reduceSub, Nat.reduceMul, Nat.reduceLT, Nat.reduceLeDiff, reduceCtorEq, Int.reduceToNat, Int.reduceLT, Int.reduceLE, Int.reduceAdd, Int.reduceSub, Int.reduceMul, Int.reduceNeg, Int.reduceEq, Nat.reduceMod, forall_eq_or_imp, forall_eq, forall_const, cond_true, cond_false, decide_true, decide_false, true_imp_iff, implies_true, Int.cast_ofNat_Int, forall_eq']
  refine callK_ro (h4) ?_ ?_
  · simp only [↓EVP0, EVQ0, EVQ1, EVQ2, EVQ3, EVQ4, EVA, EVK, EVFD, ↓reduceIte, Nat.reduceEqDiff, Nat.reduceAdd, Nat.reduceSub, Nat.reduceMul, Nat.reduceLT, Nat.reduceLeDiff, reduceCtorEq, Int.reduceToNat, Int.reduceLT, Int.reduceLE, Int.reduceAdd, Int.reduceSub, Int.reduceMul, Int.reduceNeg, Int.reduceEq, Nat.reduceMod, forall_eq_or_imp, forall_eq, forall_const, cond_true, cond_false, decide_true, decide_false, true_imp_iff, implies_true, Int.cast_ofNat_Int, forall_eq']
  simp only [↓EVP0, EVQ0, EVQ1, EVQ2, EVQ3, EVQ4, EVA, EVK, EVFD, ↓reduceIte, Nat.reduceEqDiff, Nat.reduceAdd, Nat.reduceSub, Nat.reduceMul, Nat.reduceLT, Nat.reduceLeDiff, reduceCtorEq, Int.reduceToNat, Int.reduceLT, Int.reduceLE, Int.reduceAdd, Int.reduceSub, Int.reduceMul, Int.reduceNeg, Int.reduceEq, Nat.reduceMod, forall_eq_or_imp, forall_eq, forall_const, cond_true, cond_false, decide_true, decide_false, true_imp_iff, implies_true, Int.cast_ofNat_Int, forall_eq']
  refine callK_ro (h5) ?_ ?_
  · simp only [↓EVP0, EVQ0, EVQ1, EVQ2, EVQ3, EVQ4, EVA, EVK, EVFD, ↓reduceIte, Nat.reduceEqDiff, Nat.reduceAdd, Nat.reduceSub, Nat.reduceMul, Nat.reduceLT, Nat.reduceLeDiff, reduceCtorEq, Int.reduceToNat, Int.reduceLT, Int.reduceLE, Int.reduceAdd, Int.reduceSub, Int.reduceMul, Int.reduceNeg, Int.reduceEq, Nat.reduceMod, forall_eq_or_imp, forall_eq, forall_const, cond_true, cond_false, decide_true, decide_false, true_imp_iff, implies_true, Int.cast_ofNat_Int, forall_eq']
  simp only [↓EVP0, EVQ0, EVQ1, EVQ2, EVQ3, EVQ4, EVA, EVK, EVFD, ↓reduceIte, Nat.reduceEqDiff, Nat.reduceAdd, Nat.reduceSub, Nat.reduceMul, Nat.reduceLT, Nat.reduceLeDiff, reduceCtorEq, Int.reduceToNat, Int.reduceLT, Int.reduceLE, Int.reduceAdd, Int.reduceSub, Int.reduceMul, Int.reduceNeg, Int.reduceEq, Nat.reduceMod, forall_eq_or_imp, forall_eq, forall_const, cond_true, cond_false, decide_true, decide_false, true_imp_iff, implies_true, Int.cast_ofNat_Int, forall_eq']
  (refine lops_ge_imp ?_; simp only [↓EVP0, EVQ0, EVQ1, EVQ2, EVQ3, EVQ4, EVA, EVK, EVFD, ↓reduceIte, Nat.reduceEqDiff, Nat.reduceAdd, Nat.reduceSub, Nat.reduceMul, Nat.reduceLT, Nat.reduceLeDiff, reduceCtorEq, Int.reduceToNat, Int.reduceLT, Int.reduceLE, Int.reduceAdd, Int.reduceSub, Int.reduceMul, Int.reduceNeg, Int.reduceEq, Nat.reduceMod, forall_eq_or_imp, forall_eq, forall_const, cond_true, cond_false, decide_true, decide_false, true_imp_iff, implies_true, Int.cast_ofNat_Int, forall_eq'])
  refine gCallK_ro _ (fun _ => h6) (fun _ => ?_) ?_
  · simp only [↓EVP0, EVQ0, EVQ1, EVQ2, EVQ3, EVQ4, EVA, EVK, EVFD, ↓reduceIte, Nat.reduceEqDiff, Nat.reduceAdd, Nat.reduceSub, Nat.reduceMul, Nat.reduceLT, Nat.reduceLeDiff, reduceCtorEq, Int.reduceToNat, Int.reduceLT, Int.reduceLE, Int.reduceAdd, Int.reduceSub, Int.reduceMul, Int.reduceNeg, Int.reduceEq, Nat.reduceMod, forall_eq_or_imp, forall_eq, forall_const, cond_true, cond_false, decide_true, decide_false, true_imp_iff, implies_true, Int.cast_ofNat_Int, forall_eq']
  simp only [↓EVP0, EVQ0, EVQ1, EVQ2, EVQ3, EVQ4, EVA, EVK, EVFD, ↓reduceIte, Nat.reduceEqDiff, Nat.reduceAdd, Nat.reduceSub, Nat.reduceMul, Nat.reduceLT, Nat.reduceLeDiff, reduceCtorEq, Int.reduceToNat, Int.reduceLT, Int.reduceLE, Int.reduceAdd, Int.reduceSub, Int.reduceMul, Int.reduceNeg, Int.reduceEq, Nat.reduceMod, forall_eq_or_imp, forall_eq, forall_const, cond_true, cond_false, decide_true, decide_false, true_imp_iff, implies_true, Int.cast_ofNat_Int, forall_eq']
  refine ⟨fun hg2 => ?_, fun hg2 => ?_⟩
  · have hE : loadE n rates = ([], 1) := by
      unfold loadE
      rw [if_neg]
      intro h
      simp only [Bool.and_eq_true, decide_eq_true_eq] at h
      rw [h.1, h.2.2, decide_eq_true (show (rates.length : Int) = n.fls.length by omega)] at hg2
      simp at hg2
    unfold feasB fullB
    rw [hE]; rfl
  have e2 : vldN n = true := by
    cases h : vldN n
    · rw [h] at hg2; simp at hg2
    · rfl
  have e3 : rates.length = n.fls.length := by
    by_cases h : (rates.length : Int) = n.fls.length
    · omega
    · rw [e2, decide_eq_false h] at hg2; simp at hg2
  have e4 : ∀ r, r ∈ rates → vldR r = true := by
    cases h : rates.all vldR
    · rw [h] at hg2; simp at hg2
    · exact List.all_eq_true.1 h
  have hV := vldN_of e2
  refine callK_ro (h7) ?_ ?_
  · simp only [↓EVP0, EVQ0, EVQ1, EVQ2, EVQ3, EVQ4, EVA, EVK, EVFD, ↓reduceIte, Nat.reduceEqDiff, Nat.reduceAdd, Nat.reduceSub, Nat.reduceMul, Nat.reduceLT, Nat.reduceLeDiff, reduceCtorEq, Int.reduceToNat, Int.reduceLT, Int.reduceLE, Int.reduceAdd, Int.reduceSub, Int.reduceMul, Int.reduceNeg, Int.reduceEq, Nat.reduceMod, forall_eq_or_imp, forall_eq, forall_const, cond_true, cond_false, decide_true, decide_false, true_imp_iff, implies_true, Int.cast_ofNat_Int, forall_eq']
  simp only [↓EVP0, EVQ0, EVQ1, EVQ2, EVQ3, EVQ4, EVA, EVK, EVFD, ↓reduceIte, Nat.reduceEqDiff, Nat.reduceAdd, Nat.reduceSub, Nat.reduceMul, Nat.reduceLT, Nat.reduceLeDiff, reduceCtorEq, Int.reduceToNat, Int.reduceLT, Int.reduceLE, Int.reduceAdd, Int.reduceSub, Int.reduceMul, Int.reduceNeg, Int.reduceEq, Nat.reduceMod, forall_eq_or_imp, forall_eq, forall_const, cond_true, cond_false, decide_true, decide_false, true_imp_iff, implies_true, Int.cast_ofNat_Int, forall_eq']
  (refine lops_ge_imp ?_; simp only [↓EVP0, EVQ0, EVQ1, EVQ2, EVQ3, EVQ4, EVA, EVK, EVFD, ↓reduceIte, Nat.reduceEqDiff, Nat.reduceAdd, Nat.reduceSub, Nat.reduceMul, Nat.reduceLT, Nat.reduceLeDiff, reduceCtorEq, Int.reduceToNat, Int.reduceLT, Int.reduceLE, Int.reduceAdd, Int.reduceSub, Int.reduceMul, Int.reduceNeg, Int.reduceEq, Nat.reduceMod, forall_eq_or_imp, forall_eq, forall_const, cond_true, cond_false, decide_true, decide_false, true_imp_iff, implies_true, Int.cast_ofNat_Int, forall_eq'])
  refine gCallK_ro _ (fun _ => h8) (fun _ => ?_) ?_
  · simp only [↓EVP0, EVQ0, EVQ1, EVQ2, EVQ3, EVQ4, EVA, EVK, EVFD, ↓reduceIte, Nat.reduceEqDiff, Nat.reduceAdd, Nat.reduceSub, Nat.reduceMul, Nat.reduceLT, Nat.reduceLeDiff, reduceCtorEq, Int.reduceToNat, Int.reduceLT, Int.reduceLE, Int.reduceAdd, Int.reduceSub, Int.reduceMul, Int.reduceNeg, Int.reduceEq, Nat.reduceMod, forall_eq_or_imp, forall_eq, forall_const, cond_true, cond_false, decide_true, decide_false, true_imp_iff, implies_true, Int.cast_ofNat_Int, forall_eq']
  simp only [↓EVP0, EVQ0, EVQ1, EVQ2, EVQ3, EVQ4, EVA, EVK, EVFD, ↓reduceIte, Nat.reduceEqDiff, Nat.reduceAdd, Nat.reduceSub, Nat.reduceMul, Nat.reduceLT, Nat.reduceLeDiff, reduceCtorEq, Int.reduceToNat, Int.reduceLT, Int.reduceLE, Int.reduceAdd, Int.reduceSub, Int.reduceMul, Int.reduceNeg, Int.reduceEq, Nat.reduceMod, forall_eq_or_imp, forall_eq, forall_const, cond_true, cond_false, decide_true, decide_false, true_imp_iff, implies_true, Int.cast_ofNat_Int, forall_eq']
  refine ⟨fun hg3 => ?_, fun hg3 => ?_⟩
  · have := load_err e2 e3 e4
    rcases this with h | h <;> rw [h] <;> rfl
  have e5 : (rates.all smB && decide (rates.length ≤ 7)) = true := by
    cases h : (rates.all smB && decide (rates.length ≤ 7))
    · rw [h] at hg3; simp at hg3
    · rfl
  have e6 : (n.caps.all smB && decide (n.caps.length ≤ 7)) = true := by
    cases h : (n.caps.all smB && decide (n.caps.length ≤ 7))
    · rw [h] at hg3; simp at hg3
    · rfl
  simp only [Bool.and_eq_true, decide_eq_true_eq, List.all_eq_true] at e5 e6
  have e7 := load_small e2 e3 e4 (fun r hr => smB_iff (e5.1 r hr)) e5.2
  obtain ⟨s1, s2, s3⟩ := load_sum e7
  rw [e7, s1]
  refine ⟨fun hg4 => by simp at hg4, fun _ => ?_⟩
  refine callK_ro (h9) ?_ ?_
  · simp only [↓EVP0, EVQ0, EVQ1, EVQ2, EVQ3, EVQ4, EVA, EVK, EVFD, ↓reduceIte, Nat.reduceEqDiff, Nat.reduceAdd, Nat.reduceSub, Nat.reduceMul, Nat.reduceLT, Nat.reduceLeDiff, reduceCtorEq, Int.reduceToNat, Int.reduceLT, Int.reduceLE, Int.reduceAdd, Int.reduceSub, Int.reduceMul, Int.reduceNeg, Int.reduceEq, Nat.reduceMod, forall_eq_or_imp, forall_eq, forall_const, cond_true, cond_false, decide_true, decide_false, true_imp_iff, implies_true, Int.cast_ofNat_Int, forall_eq']
  simp only [↓EVP0, EVQ0, EVQ1, EVQ2, EVQ3, EVQ4, EVA, EVK, EVFD, ↓reduceIte, Nat.reduceEqDiff, Nat.reduceAdd, Nat.reduceSub, Nat.reduceMul, Nat.reduceLT, Nat.reduceLeDiff, reduceCtorEq, Int.reduceToNat, Int.reduceLT, Int.reduceLE, Int.reduceAdd, Int.reduceSub, Int.reduceMul, Int.reduceNeg, Int.reduceEq, Nat.reduceMod, forall_eq_or_imp, forall_eq, forall_const, cond_true, cond_false, decide_true, decide_false, true_imp_iff, implies_true, Int.cast_ofNat_Int, forall_eq']
  refine callK_ro (h10) ?_ ?_
  · simp only [↓EVP0, EVQ0, EVQ1, EVQ2, EVQ3, EVQ4, EVA, EVK, EVFD, ↓reduceIte, Nat.reduceEqDiff, Nat.reduceAdd, Nat.reduceSub, Nat.reduceMul, Nat.reduceLT, Nat.reduceLeDiff, reduceCtorEq, Int.reduceToNat, Int.reduceLT, Int.reduceLE, Int.reduceAdd, Int.reduceSub, Int.reduceMul, Int.reduceNeg, Int.reduceEq, Nat.reduceMod, forall_eq_or_imp, forall_eq, forall_const, cond_true, cond_false, decide_true, decide_false, true_imp_iff, implies_true, Int.cast_ofNat_Int, forall_eq']
  simp only [↓EVP0, EVQ0, EVQ1, EVQ2, EVQ3, EVQ4, EVA, EVK, EVFD, ↓reduceIte, Nat.reduceEqDiff, Nat.reduceAdd, Nat.reduceSub, Nat.reduceMul, Nat.reduceLT, Nat.reduceLeDiff, reduceCtorEq, Int.reduceToNat, Int.reduceLT, Int.reduceLE, Int.reduceAdd, Int.reduceSub, Int.reduceMul, Int.reduceNeg, Int.reduceEq, Nat.reduceMod, forall_eq_or_imp, forall_eq, forall_const, cond_true, cond_false, decide_true, decide_false, true_imp_iff, implies_true, Int.cast_ofNat_Int, forall_eq']
  intro hc1
  have hl := fun j => h11 hV e3 e4 (fun r hr => smB_iff (e5.1 r hr)) e5.2 j
  have hra := fun j hj => refA_law e2 e3 e4 (fun r hr => smB_iff (e5.1 r hr)) e5.2 (j := j) hj
  have hcmp := fun j => ev_cmp ((loadE n rates).1.getD j default) (n.caps.getD j default) (getD_okRt (loadE_okRt n rates) _) (getD_okRt hn.caps _)
  have hfb : fullB n rates l = (decide (0 ≤ l) && (decide (l < n.caps.length) && decide (cmpR ((loadE n rates).1.getD l.toNat default) (n.caps.getD l.toNat default) = 0))) := by
    unfold fullB
    rw [decide_eq_true e7]; rfl
  generalize (loadE n rates).1 = M at *
  refine lwp_for (α := Unit) n.caps.length (fun _ _ => True) (fun i _ => [(2, .sc (.int .i64 l)), (3, .ptr 0 0 0 0 0), (7, .rsl 2 n.caps.length (rtsF M)), (9, .sc (.bool (feasB n rates))), (10, .sc (.bool (fullB n rates l))), (11, .ptr 1 0 0 0 0), (12, .rsl 2 rates.length (rtsF rates)), (105, .sc (.int .i64 n.caps.length)), (106, .sc (.int .i64 i))])
    (fun i _ => [(0, .box [.rsl 2 n.caps.length (rtsF n.caps), .rsl 4 n.fls.length (flsF n.fls)]), (0, .box [.rsl 2 n.caps.length (rtsF n.caps), .rsl 4 n.fls.length (flsF n.fls)])]) () trivial ?_ (fun _ _ => Nat.zero_le _) ?_
  · simp only [↓EVP0, EVQ0, EVQ1, EVQ2, EVQ3, EVQ4, EVA, EVK, EVFD, ↓reduceIte, Nat.reduceEqDiff, Nat.reduceAdd, Nat.reduceSub, Nat.reduceMul, Nat.reduceLT, Nat.reduceLeDiff, reduceCtorEq, Int.reduceToNat, Int.reduceLT, Int.reduceLE, Int.reduceAdd, Int.reduceSub, Int.reduceMul, Int.reduceNeg, Int.reduceEq, Nat.reduceMod, forall_eq_or_imp, forall_eq, forall_const, cond_true, cond_false, decide_true, decide_false, true_imp_iff, implies_true, Int.cast_ofNat_Int, forall_eq']
  intro i _ hi _
  unfold lb5_1
  simp only [↓EVP0, EVQ0, EVQ1, EVQ2, EVQ3, EVQ4, EVA, EVK, EVFD, ↓reduceIte, Nat.reduceEqDiff, Nat.reduceAdd, Nat.reduceSub, Nat.reduceMul, Nat.reduceLT, Nat.reduceLeDiff, reduceCtorEq, Int.reduceToNat, Int.reduceLT, Int.reduceLE, Int.reduceAdd, Int.reduceSub, Int.reduceMul, Int.reduceNeg, Int.reduceEq, Nat.reduceMod, forall_eq_or_imp, forall_eq, forall_const, cond_true, cond_false, decide_true, decide_false, true_imp_iff, implies_true, Int.cast_ofNat_Int, forall_eq']
  refine ⟨fun hg5 => ?_, fun hg5 => ?_⟩
  · have hi2 : i < n.caps.length := by have := of_decide_eq_true hg5; omega
    obtain ⟨q1, q2⟩ := hra i hi2
    have k1 := hl i
    have k2 := ev_same33 (M.getD i default) (refA i n.fls rates ⟨0, 1⟩) (by rw [full_nrm (s2 _ (getD_mem default (by omega))), full_nrm q1.1, q2])
    unfold ratV at k1 k2
    refine ⟨⟨by omega, by omega⟩, ?_⟩
    first | refine qCallK_ro (k1) ?_ ?_ | refine eCallK_ro (k1) ?_ ?_
    · simp only [↓EVP0, EVQ0, EVQ1, EVQ2, EVQ3, EVQ4, EVA, EVK, EVFD, ↓reduceIte, Nat.reduceEqDiff, Nat.reduceAdd, Nat.reduceSub, Nat.reduceMul, Nat.reduceLT, Nat.reduceLeDiff, reduceCtorEq, Int.reduceToNat, Int.reduceLT, Int.reduceLE, Int.reduceAdd, Int.reduceSub, Int.reduceMul, Int.reduceNeg, Int.reduceEq, Nat.reduceMod, forall_eq_or_imp, forall_eq, forall_const, cond_true, cond_false, decide_true, decide_false, true_imp_iff, implies_true, Int.cast_ofNat_Int, forall_eq']
    simp only [↓EVP0, EVQ0, EVQ1, EVQ2, EVQ3, EVQ4, EVA, EVK, EVFD, ↓reduceIte, Nat.reduceEqDiff, Nat.reduceAdd, Nat.reduceSub, Nat.reduceMul, Nat.reduceLT, Nat.reduceLeDiff, reduceCtorEq, Int.reduceToNat, Int.reduceLT, Int.reduceLE, Int.reduceAdd, Int.reduceSub, Int.reduceMul, Int.reduceNeg, Int.reduceEq, Nat.reduceMod, forall_eq_or_imp, forall_eq, forall_const, cond_true, cond_false, decide_true, decide_false, true_imp_iff, implies_true, Int.cast_ofNat_Int, forall_eq']
    first | refine qCallK_ro (k2) ?_ ?_ | refine eCallK_ro (k2) ?_ ?_
    · simp only [↓EVP0, EVQ0, EVQ1, EVQ2, EVQ3, EVQ4, EVA, EVK, EVFD, ↓reduceIte, Nat.reduceEqDiff, Nat.reduceAdd, Nat.reduceSub, Nat.reduceMul, Nat.reduceLT, Nat.reduceLeDiff, reduceCtorEq, Int.reduceToNat, Int.reduceLT, Int.reduceLE, Int.reduceAdd, Int.reduceSub, Int.reduceMul, Int.reduceNeg, Int.reduceEq, Nat.reduceMod, forall_eq_or_imp, forall_eq, forall_const, cond_true, cond_false, decide_true, decide_false, true_imp_iff, implies_true, Int.cast_ofNat_Int, forall_eq']
    simp only [↓EVP0, EVQ0, EVQ1, EVQ2, EVQ3, EVQ4, EVA, EVK, EVFD, ↓reduceIte, Nat.reduceEqDiff, Nat.reduceAdd, Nat.reduceSub, Nat.reduceMul, Nat.reduceLT, Nat.reduceLeDiff, reduceCtorEq, Int.reduceToNat, Int.reduceLT, Int.reduceLE, Int.reduceAdd, Int.reduceSub, Int.reduceMul, Int.reduceNeg, Int.reduceEq, Nat.reduceMod, forall_eq_or_imp, forall_eq, forall_const, cond_true, cond_false, decide_true, decide_false, true_imp_iff, implies_true, Int.cast_ofNat_Int, forall_eq']
    exact ⟨by unfold In64; omega, hi2, (), trivial⟩
  have hi2 : i = n.caps.length := by have := of_decide_eq_false hg5; omega
  subst hi2
  have hin : (bif decide (0 ≤ l) then decide (l < (n.caps.length : Int)) else false) = true → 0 ≤ l ∧ l < (n.caps.length : Int) := by
    intro h
    by_cases a : 0 ≤ l
    · rw [decide_eq_true a] at h
      exact ⟨a, of_decide_eq_true h⟩
    · rw [decide_eq_false a] at h; simp at h
  have k3 := hcmp l.toNat
  unfold ratV at k3
  refine ⟨hin, hin, ?_⟩
  (first | refine lopsQ_gcall ?_ | refine lopsQ_gecl ?_); (simp only [↓EVP0, EVQ0, EVQ1, EVQ2, EVQ3, EVQ4, EVA, EVK, EVFD, ↓reduceIte, Nat.reduceEqDiff, Nat.reduceAdd, Nat.reduceSub, Nat.reduceMul, Nat.reduceLT, Nat.reduceLeDiff, reduceCtorEq, Int.reduceToNat, Int.reduceLT, Int.reduceLE, Int.reduceAdd, Int.reduceSub, Int.reduceMul, Int.reduceNeg, Int.reduceEq, Nat.reduceMod, forall_eq_or_imp, forall_eq, forall_const, cond_true, cond_false, decide_true, decide_false, true_imp_iff, implies_true, Int.cast_ofNat_Int, forall_eq'])
  first | refine gCallK_ro _ (fun _ => k3) (fun _ => ?_) ?_ | refine geCallK_ro _ (fun _ => k3) (fun _ => ?_) ?_
  · simp only [↓EVP0, EVQ0, EVQ1, EVQ2, EVQ3, EVQ4, EVA, EVK, EVFD, ↓reduceIte, Nat.reduceEqDiff, Nat.reduceAdd, Nat.reduceSub, Nat.reduceMul, Nat.reduceLT, Nat.reduceLeDiff, reduceCtorEq, Int.reduceToNat, Int.reduceLT, Int.reduceLE, Int.reduceAdd, Int.reduceSub, Int.reduceMul, Int.reduceNeg, Int.reduceEq, Nat.reduceMod, forall_eq_or_imp, forall_eq, forall_const, cond_true, cond_false, decide_true, decide_false, true_imp_iff, implies_true, Int.cast_ofNat_Int, forall_eq']
  simp only [↓EVP0, EVQ0, EVQ1, EVQ2, EVQ3, EVQ4, EVA, EVK, EVFD, ↓reduceIte, Nat.reduceEqDiff, Nat.reduceAdd, Nat.reduceSub, Nat.reduceMul, Nat.reduceLT, Nat.reduceLeDiff, reduceCtorEq, Int.reduceToNat, Int.reduceLT, Int.reduceLE, Int.reduceAdd, Int.reduceSub, Int.reduceMul, Int.reduceNeg, Int.reduceEq, Nat.reduceMod, forall_eq_or_imp, forall_eq, forall_const, cond_true, cond_false, decide_true, decide_false, true_imp_iff, implies_true, Int.cast_ofNat_Int, forall_eq']
  intro hf1
  refine lwp_for (α := Unit) n.fls.length (fun j _ => ∀ i, i < j → decide ((n.fls.getD i default).dem.n ≤ 536870912 ∧ (n.fls.getD i default).dem.d ≤ 536870912) = true) (fun i _ => [(3, .ptr 0 0 0 0 0), (9, .sc (.bool (feasB n rates))), (10, .sc (.bool (fullB n rates l))), (11, .ptr 1 0 0 0 0), (12, .rsl 2 rates.length (rtsF rates)), (14, .sc (.bool (fullB n rates l))), (143, .sc (.int .i64 n.fls.length)), (144, .sc (.int .i64 i))])
    (fun i _ => [(0, .box [.rsl 2 n.caps.length (rtsF n.caps), .rsl 4 n.fls.length (flsF n.fls)]), (0, .box [.rsl 2 n.caps.length (rtsF n.caps), .rsl 4 n.fls.length (flsF n.fls)])]) () (fun j hj => absurd hj (Nat.not_lt_zero _)) ?_ (fun _ _ => Nat.zero_le _) ?_
  · simp only [↓EVP0, EVQ0, EVQ1, EVQ2, EVQ3, EVQ4, EVA, EVK, EVFD, ↓reduceIte, Nat.reduceEqDiff, Nat.reduceAdd, Nat.reduceSub, Nat.reduceMul, Nat.reduceLT, Nat.reduceLeDiff, reduceCtorEq, Int.reduceToNat, Int.reduceLT, Int.reduceLE, Int.reduceAdd, Int.reduceSub, Int.reduceMul, Int.reduceNeg, Int.reduceEq, Nat.reduceMod, forall_eq_or_imp, forall_eq, forall_const, cond_true, cond_false, decide_true, decide_false, true_imp_iff, implies_true, Int.cast_ofNat_Int, forall_eq']
    rw [hfb]
    cases decide (0 ≤ l) <;> cases decide (l < (n.caps.length : Int)) <;> rfl
  intro i _ hi hx
  unfold lb5_0
  simp only [↓EVP0, EVQ0, EVQ1, EVQ2, EVQ3, EVQ4, EVA, EVK, EVFD, ↓reduceIte, Nat.reduceEqDiff, Nat.reduceAdd, Nat.reduceSub, Nat.reduceMul, Nat.reduceLT, Nat.reduceLeDiff, reduceCtorEq, Int.reduceToNat, Int.reduceLT, Int.reduceLE, Int.reduceAdd, Int.reduceSub, Int.reduceMul, Int.reduceNeg, Int.reduceEq, Nat.reduceMod, forall_eq_or_imp, forall_eq, forall_const, cond_true, cond_false, decide_true, decide_false, true_imp_iff, implies_true, Int.cast_ofNat_Int, forall_eq']
  refine ⟨fun hg6 => ?_, fun hg6 => ?_⟩
  · have hi2 : i < n.fls.length := by have := of_decide_eq_true hg6; omega
    refine ⟨⟨by omega, by omega⟩, fun _ => rfl, fun h => ⟨by unfold In64; omega, hi2, (), snoc_all hx (decide_eq_true ?_)⟩⟩
    by_cases a : (n.fls.getD i default).dem.n ≤ 536870912
    · refine ⟨a, ?_⟩
      rw [decide_eq_false (show ¬ (536870912 : Int) < (n.fls.getD i default).dem.n by omega)] at h
      have := of_decide_eq_false h
      omega
    · rw [decide_eq_true (show (536870912 : Int) < (n.fls.getD i default).dem.n by omega)] at h; simp at h
  have hi2 : i = n.fls.length := by have := of_decide_eq_false hg6; omega
  subst hi2
  have k4 := h12 e2 e3 e4 (fun r hr => smB_iff (e5.1 r hr)) e5.2 (fun r hr => smB_iff (e6.1 r hr)) (fun f hf => by
    obtain ⟨j, hj, rfl⟩ := List.getElem_of_mem hf
    have := of_decide_eq_true (hx j hj)
    rw [List.getD_eq_getElem?_getD, List.getElem?_eq_getElem hj] at this
    exact this)
  (refine lops_ge_imp ?_; simp only [↓EVP0, EVQ0, EVQ1, EVQ2, EVQ3, EVQ4, EVA, EVK, EVFD, ↓reduceIte, Nat.reduceEqDiff, Nat.reduceAdd, Nat.reduceSub, Nat.reduceMul, Nat.reduceLT, Nat.reduceLeDiff, reduceCtorEq, Int.reduceToNat, Int.reduceLT, Int.reduceLE, Int.reduceAdd, Int.reduceSub, Int.reduceMul, Int.reduceNeg, Int.reduceEq, Nat.reduceMod, forall_eq_or_imp, forall_eq, forall_const, cond_true, cond_false, decide_true, decide_false, true_imp_iff, implies_true, Int.cast_ofNat_Int, forall_eq'])
  refine gCallK_ro _ (fun _ => k4) (fun _ => ?_) ?_
  · simp only [↓EVP0, EVQ0, EVQ1, EVQ2, EVQ3, EVQ4, EVA, EVK, EVFD, ↓reduceIte, Nat.reduceEqDiff, Nat.reduceAdd, Nat.reduceSub, Nat.reduceMul, Nat.reduceLT, Nat.reduceLeDiff, reduceCtorEq, Int.reduceToNat, Int.reduceLT, Int.reduceLE, Int.reduceAdd, Int.reduceSub, Int.reduceMul, Int.reduceNeg, Int.reduceEq, Nat.reduceMod, forall_eq_or_imp, forall_eq, forall_const, cond_true, cond_false, decide_true, decide_false, true_imp_iff, implies_true, Int.cast_ofNat_Int, forall_eq']
  simp only [↓EVP0, EVQ0, EVQ1, EVQ2, EVQ3, EVQ4, EVA, EVK, EVFD, ↓reduceIte, Nat.reduceEqDiff, Nat.reduceAdd, Nat.reduceSub, Nat.reduceMul, Nat.reduceLT, Nat.reduceLeDiff, reduceCtorEq, Int.reduceToNat, Int.reduceLT, Int.reduceLE, Int.reduceAdd, Int.reduceSub, Int.reduceMul, Int.reduceNeg, Int.reduceEq, Nat.reduceMod, forall_eq_or_imp, forall_eq, forall_const, cond_true, cond_false, decide_true, decide_false, true_imp_iff, implies_true, Int.cast_ofNat_Int, forall_eq']
  cases feasB n rates <;> rfl
end Go.Proofs.YtdfiicpikcdokaaDoor
namespace Go.Proofs.YtdfiicpikcdokaaDoor
set_option linter.unusedSimpArgs false
set_option linter.unusedVariables false
open Go.ChangeShapes Go.WideShapes Go.ChangeAt Go.RowKit

theorem card_paramsDemandLoads (fn : Func) (h : fn.params.toList.all (fun t => !Tryd.prog.wantsStandIn t) = true) (j : Nat) (t : TypeId) (ht : fn.params[j]? = some t) : Tryd.prog.wantsStandIn t = false := by
  have := List.all_eq_true.1 h t (by rw [← Array.getElem?_toList] at ht; exact List.mem_of_getElem? ht)
  simpa using this
theorem law_demandLoads (lvs : List LV) (h : fitAll Tryd.prog Tryd.f5.params.toList lvs) : Ev Tryd.prog 5 lvs (.sc (.bool true)) := by
  rw [Tryd.params5] at h
  obtain ⟨a0, l0, rfl, g0, h⟩ := all1 h
  obtain ⟨a1, l1, rfl, g1, h⟩ := all1 h
  obtain ⟨a2, l2, rfl, g2, h⟩ := all1 h
  obtain rfl := all0 h
  obtain ⟨p, ip, hp⟩ := arg_net g0
  obtain ⟨a, ia, ha, na⟩ := arg_rats g1
  obtain ⟨l, rfl, hl⟩ := arg_int g2
  exact ev_im (bs := [netV p, ratsV a, .sc (.int .i64 l)]) ⟨ip, ia, Im.refl _, trivial⟩ (ev_lawLoads p hp a ha l)
set_option maxRecDepth 100000 in
theorem lifted_demandLoads (os : Os) (started : os.Started) (H : Type) (enc : TypeId × Value → H) :
    ReturnsInHanded {} Tryd.checked os 5 .any (fun w args => (Rows.demandLoadsSpec.pre enc Tryd.prog Tryd.f5 [] false w args ∧ laidMetH Tryd.prog Rows.demandLoadsRow.laid w) ∧ sizedMet enc Tryd.prog Tryd.f5 (OpenSpec.ofChange Rows.demandLoadsSpec) false w args) (Rows.demandLoadsSpec.post enc Tryd.prog Tryd.f5 false true false false) := by
  refine law_liftedL (C := Tryd.checked) (tb := 4) Rows.demandLoadsRow.laid Tryd.own' started Tryd.laidOut' (by kernel_rfl) Tryd.func5
    (ChangeSpec.witness_shaped (enc := enc) (C := Tryd.checked) (os := os) (X := fun w _ => laidMetH Tryd.prog Rows.demandLoadsRow.laid w) false (World.laidAll Tryd.prog os Rows.demandLoadsRow.laid) #[.agg #[.slice none 0 0, .slice none 0 0], .slice none 0 0, .int .i64 0] 8 (World.laidAll_os _ _ _)
      (World.shaped_of_ZipB (by kernel_rfl) (by kernel_rfl)) (by kernel_rfl) (by kernel_rfl) (by kernel_rfl)
      (by rw [MakeChecks.laidMetH_plain _ _ _ (by kernel_rfl)]; exact laidMet_laidAll _ (by kernel_rfl) (by kernel_rfl)))
    (by kernel_rfl) Tryd.underlying4 rfl (fun ds hd => ?_) (by kernel_rfl) (fun _ _ hh h => h.of_heap hh) (fun _ _ _ => trivial) law_demandLoads
  have hd : ds.length = 3 := hd
  match ds, hd with
  | [d1, d2, d3], _ => exact ⟨rfl, rfl, rfl⟩
theorem demandLoads_holds : Rows.DemandLoadsSaid :=
  OpenClaim.holds_of_wide 5 Tryd.f5 rfl rfl rfl rfl rfl rfl rfl ⟨rfl, rfl, rfl, rfl, rfl⟩ rfl rfl rfl rfl rfl (by kernel_rfl) Tryd.func5 (by kernel_rfl)
    (of_decide_eq_true (by kernel_rfl)) (by unfold Func.isWrapper; first | (rw [if_pos (by decide +kernel)]; kernel_rfl) | (rw [if_neg (by decide +kernel)]; exact ⟨rfl, rfl⟩))
    (fun os started H enc _ => lifted_demandLoads os started H enc)
theorem demandLoads_card : Rows.DemandLoadsCardSaid :=
  Claim7.holds_tied_plain_at .later [] Rows.demandLoadsCard.laidKinds true Rows.demandLoadsCard.stood.harness false
    demandLoads_holds (fun _ h => by cases h) (by kernel_rfl) (fun _ h => by cases h) demandLoads_row_tie rfl ⟨rfl, rfl⟩ (by kernel_rfl) rfl
    (fun f fn hf hfn => by
      obtain rfl : f = 5 := Option.some.inj ((show Tryd.prog.funcNamed Rows.demandLoadsRow.func = some 5 by kernel_rfl).symm.trans hf) |>.symm
      obtain rfl : fn = Tryd.f5 := (Option.some.inj (Tryd.func5.symm.trans hfn)).symm
      exact ⟨by kernel_rfl, fun j t ht => card_paramsDemandLoads Tryd.f5 (by kernel_rfl) j t ht⟩)
    (by kernel_rfl)
end Go.Proofs.YtdfiicpikcdokaaDoor
