/- Distances in a plan: the program's own steps. Conditions: none. -/
import Derived.Test.YtggaonafmiklaaaGF
import Derived.Test.YtggaonafmiklaaaL19
namespace Go.Proofs.Ytggaonafmiklaaa
set_option linter.unusedSimpArgs false
set_option linter.unusedVariables false
open Go.RowKit

def srch (p : Pl) (b : HB) (m : Nat) : List (Nat × LO) := [(0, .box [.rsl 3 p.ns.length (ndsF p.ns), .rsl 6 p.cs.length (cbsF p.cs)]), (0, .ints b.l), (0, .box [.sl 1 0 1 0 m]), (b.ver, .ints b.xs), (0, .box [.sl 3 b.ver 1 b.off (b.xs.length - b.off)])]

theorem ev_visit (p : Pl) (b : HB) (m : Nat) (u y : Int) (ob : List LV) (hob : allC 7 ob) (hm : b.l.length = m) (hy : inN m y) (hu : inN m u) (hov : In64 (lv b u + 1)) (hoff : b.off ≤ b.xs.length) (hq : b.q.length ≤ 1000) :
    LCall Try.prog 42 [.sc (.int .i64 y), .ptr 2 0 0 0 0, .ptr 5 0 0 0 0, .ptr 4 0 0 0 0] (mkH (srch p b m ++ [(0, .box [.sc (.int .i64 u)]), (0, .box ob)])) (.tup []) (mkH (srch p (visit b u y) m ++ [(0, .box [.sc (.int .i64 u)]), (0, .box ob)])) := by
  have hlt : y.toNat < b.l.length ∧ u.toNat < b.l.length := by unfold inN at hy hu; omega
  unfold inN at hy hu
  have hlv : ∀ x, lv b x = b.l.getD x.toNat 0 := fun _ => rfl
  by_cases hl : lv b y < 0
  · have hv : visit b u y = ⟨b.l.set y.toNat (lv b u + 1), b.q ++ [y], 0, b.ver + 1⟩ := by unfold visit; rw [decide_eq_true hl]; rfl
    have hqe : List.take (b.xs.length - b.off) (List.drop b.off b.xs) = b.q := by rw [List.take_of_length_le (by simp)]; rfl
    have hql : b.xs.length - b.off = b.q.length := by simp [HB.q]
    rw [hv]
    refine lcall_of_lwp Try.func42 comp42 (show 4 ≤ Try.f42.ntmps by decide) (by simp [srch, mkH]) ?_
    unfold cf42 rf42 srch
    simp only [↓EVP0, EVQ0, EVQ1, EVQ2, EVQ3, EVQ4, EVA, EVK, EVF, ↓reduceIte, Nat.reduceEqDiff, Nat.reduceAdd, Nat.reduceSub, Nat.reduceMul, Nat.reduceLT, Nat.reduceLeDiff, reduceCtorEq, Int.reduceToNat, Int.reduceLT, Int.reduceLE, Int.reduceAdd, Int.reduceSub, Int.reduceMul, Int.reduceNeg, Int.reduceEq, Nat.reduceMod, forall_eq_or_imp, forall_eq, forall_const, cond_true, cond_false, decide_true, decide_false, true_imp_iff, implies_true, Int.cast_ofNat_Int, forall_eq']
    simp only [hqe, ← hlv, decide_eq_true hl]
    simp only [↓EVP0, EVQ0, EVQ1, EVQ2, EVQ3, EVQ4, EVA, EVK, EVF, ↓reduceIte, Nat.reduceEqDiff, Nat.reduceAdd, Nat.reduceSub, Nat.reduceMul, Nat.reduceLT, Nat.reduceLeDiff, reduceCtorEq, Int.reduceToNat, Int.reduceLT, Int.reduceLE, Int.reduceAdd, Int.reduceSub, Int.reduceMul, Int.reduceNeg, Int.reduceEq, Nat.reduceMod, forall_eq_or_imp, forall_eq, forall_const, cond_true, cond_false, decide_true, decide_false, true_imp_iff, implies_true, Int.cast_ofNat_Int, forall_eq']
    unfold fin2
    simp only [↓EVP0, EVQ0, EVQ1, EVQ2, EVQ3, EVQ4, EVA, EVK, EVF, ↓reduceIte, Nat.reduceEqDiff, Nat.reduceAdd, Nat.reduceSub, Nat.reduceMul, Nat.reduceLT, Nat.reduceLeDiff, reduceCtorEq, Int.reduceToNat, Int.reduceLT, Int.reduceLE, Int.reduceAdd, Int.reduceSub, Int.reduceMul, Int.reduceNeg, Int.reduceEq, Nat.reduceMod, forall_eq_or_imp, forall_eq, forall_const, cond_true, cond_false, decide_true, decide_false, true_imp_iff, implies_true, Int.cast_ofNat_Int, forall_eq']
    exact ⟨hy, hlt.1, hu, hlt.2, hov, hy, hlt.1, by omega, by unfold appRoom; omega, by rw [hql]; simp, hob⟩
  · have hv : visit b u y = b := by unfold visit; rw [decide_eq_false hl]; rfl
    rw [hv]
    refine lcall_of_lwp Try.func42 comp42 (show 4 ≤ Try.f42.ntmps by decide) (by simp [srch, mkH]) ?_
    unfold cf42 rf42 srch
    simp only [↓EVP0, EVQ0, EVQ1, EVQ2, EVQ3, EVQ4, EVA, EVK, EVF, ↓reduceIte, Nat.reduceEqDiff, Nat.reduceAdd, Nat.reduceSub, Nat.reduceMul, Nat.reduceLT, Nat.reduceLeDiff, reduceCtorEq, Int.reduceToNat, Int.reduceLT, Int.reduceLE, Int.reduceAdd, Int.reduceSub, Int.reduceMul, Int.reduceNeg, Int.reduceEq, Nat.reduceMod, forall_eq_or_imp, forall_eq, forall_const, cond_true, cond_false, decide_true, decide_false, true_imp_iff, implies_true, Int.cast_ofNat_Int, forall_eq']
    simp only [← hlv, decide_eq_false hl]
    simp only [↓EVP0, EVQ0, EVQ1, EVQ2, EVQ3, EVQ4, EVA, EVK, EVF, ↓reduceIte, Nat.reduceEqDiff, Nat.reduceAdd, Nat.reduceSub, Nat.reduceMul, Nat.reduceLT, Nat.reduceLeDiff, reduceCtorEq, Int.reduceToNat, Int.reduceLT, Int.reduceLE, Int.reduceAdd, Int.reduceSub, Int.reduceMul, Int.reduceNeg, Int.reduceEq, Nat.reduceMod, forall_eq_or_imp, forall_eq, forall_const, cond_true, cond_false, decide_true, decide_false, true_imp_iff, implies_true, Int.cast_ofNat_Int, forall_eq']
    unfold fin2
    simp only [↓EVP0, EVQ0, EVQ1, EVQ2, EVQ3, EVQ4, EVA, EVK, EVF, ↓reduceIte, Nat.reduceEqDiff, Nat.reduceAdd, Nat.reduceSub, Nat.reduceMul, Nat.reduceLT, Nat.reduceLeDiff, reduceCtorEq, Int.reduceToNat, Int.reduceLT, Int.reduceLE, Int.reduceAdd, Int.reduceSub, Int.reduceMul, Int.reduceNeg, Int.reduceEq, Nat.reduceMod, forall_eq_or_imp, forall_eq, forall_const, cond_true, cond_false, decide_true, decide_false, true_imp_iff, implies_true, Int.cast_ofNat_Int, forall_eq']
    exact ⟨hy, hlt.1, hob⟩

def fillM (n i : Nat) : List Int := List.replicate i (-1) ++ List.replicate (n - i) 0
theorem fillM_set {n i : Nat} (h : i < n) : (fillM n i).set i (-1) = fillM n (i + 1) := by
  unfold fillM
  obtain ⟨k, hk⟩ : ∃ k, n - i = k + 1 := ⟨n - i - 1, by omega⟩
  rw [hk, List.replicate_succ, show n - (i + 1) = k by omega, List.set_append_right _ _ (by simp)]
  simp [List.replicate_succ']
theorem fillM_len {n i : Nat} (h : i ≤ n) : (fillM n i).length = n := by simp [fillM]; omega
theorem fillM_end {n : Nat} : fillM n n = List.replicate n (-1) := by simp [fillM]

theorem ev_distances (p : Pl) (up : List Bool) (r : Int) (hn : p.ns.length ≤ 16) (hcs : p.cs.length ≤ 32) (hC : ∀ c, c ∈ p.cs → inN p.ns.length c.a ∧ inN p.ns.length c.b) (hr : inN p.ns.length r) (hup : up.length = p.cs.length) :
    Ev Try.prog 37 [plV p, .sc (.int .i64 r), boolsV up] (intsV (distL p.ns.length (upU p.cs up) r)) := by
  have hU := upU_in (n := p.ns.length) (up := up) hC
  unfold plV boolsV intsV
  refine ev_fn Try.func37 comp37 (show 3 ≤ Try.f37.ntmps by decide) ?_; unfold cf37 rf37; simp only [↓EVP0, EVQ0, EVQ1, EVQ2, EVQ3, EVQ4, EVA, EVK, EVF, ↓reduceIte, Nat.reduceEqDiff, Nat.reduceAdd, Nat.reduceSub, Nat.reduceMul, Nat.reduceLT, Nat.reduceLeDiff, reduceCtorEq, Int.reduceToNat, Int.reduceLT, Int.reduceLE, Int.reduceAdd, Int.reduceSub, Int.reduceMul, Int.reduceNeg, Int.reduceEq, Nat.reduceMod, forall_eq_or_imp, forall_eq, forall_const, cond_true, cond_false, decide_true, decide_false, true_imp_iff, implies_true, Int.cast_ofNat_Int, forall_eq']
  intro _
  refine ⟨by unfold mksC; omega, fun _ => ?_⟩
  refine lwp_for (α := Unit) p.ns.length (fun i _ => True) (fun i _ => [(2, .rsl 1 up.length (boolsF up)), (1, .sc (.int .i64 r)), (3, .ptr 0 0 0 0 0), (7, .ptr 2 0 0 0 0), (19, .sc (.int .i64 p.ns.length)), (20, .sc (.int .i64 i))])
    (fun i _ => [(0, .box [.rsl 3 p.ns.length (ndsF p.ns), .rsl 6 p.cs.length (cbsF p.cs)]), (0, .ints (fillM p.ns.length i)), (0, .box [.sl 1 0 1 0 p.ns.length])]) () trivial ?_ (fun _ _ => Nat.zero_le _) ?_
  · simp only [↓EVP0, EVQ0, EVQ1, EVQ2, EVQ3, EVQ4, EVA, EVK, EVF, ↓reduceIte, Nat.reduceEqDiff, Nat.reduceAdd, Nat.reduceSub, Nat.reduceMul, Nat.reduceLT, Nat.reduceLeDiff, reduceCtorEq, Int.reduceToNat, Int.reduceLT, Int.reduceLE, Int.reduceAdd, Int.reduceSub, Int.reduceMul, Int.reduceNeg, Int.reduceEq, Nat.reduceMod, forall_eq_or_imp, forall_eq, forall_const, cond_true, cond_false, decide_true, decide_false, true_imp_iff, implies_true, Int.cast_ofNat_Int, forall_eq']
    simp [fillM]
  intro i _ hi _
  unfold lb37_2
  simp only [↓EVP0, EVQ0, EVQ1, EVQ2, EVQ3, EVQ4, EVA, EVK, EVF, ↓reduceIte, Nat.reduceEqDiff, Nat.reduceAdd, Nat.reduceSub, Nat.reduceMul, Nat.reduceLT, Nat.reduceLeDiff, reduceCtorEq, Int.reduceToNat, Int.reduceLT, Int.reduceLE, Int.reduceAdd, Int.reduceSub, Int.reduceMul, Int.reduceNeg, Int.reduceEq, Nat.reduceMod, forall_eq_or_imp, forall_eq, forall_const, cond_true, cond_false, decide_true, decide_false, true_imp_iff, implies_true, Int.cast_ofNat_Int, forall_eq']
  refine ⟨fun hg => ?_, fun hg => ?_⟩
  · have hi2 : i < p.ns.length := by simpa using hg
    refine ⟨⟨by omega, by omega⟩, by rw [fillM_len hi]; omega, by unfold In64; omega, hi2, (), fillM_set hi2⟩
  have hii : i = p.ns.length := by simp at hg; omega
  subst hii
  have hr' := hr
  unfold inN at hr'
  rw [fillM_end]
  refine ⟨⟨by omega, by omega⟩, by simp; omega, ?_⟩
  refine lwp_loop (α := HB) (fun b => BInv p.ns.length (upU p.cs up) r b ∧ b.off ≤ b.xs.length ∧ b.mu ≤ 100) (fun b => [(2, .rsl 1 up.length (boolsF up)), (3, .ptr 0 0 0 0 0), (7, .ptr 2 0 0 0 0), (9, .ptr 4 0 0 0 0)])
    (fun b => srch p b p.ns.length) HB.mu ⟨(List.replicate p.ns.length (-1)).set r.toNat 0, [r], 0, 0⟩ ?_ ?_ (fun _ => Nat.zero_le _) ?_
  · refine ⟨BInv.start hr _ (by simp) (fun x hx => ?_) _, by simp, ?_⟩
    · unfold inN at hx
      simp only [List.getD_eq_getElem?_getD]
      by_cases e : x = r
      · subst e; rw [if_pos rfl, List.getElem?_set_self (by simp; omega)]; rfl
      · rw [if_neg e, List.getElem?_set_ne (by omega), List.getElem?_replicate, if_pos (by omega)]; rfl
    · simp only [HB.mu, HB.q, List.drop_zero, List.length_cons, List.length_nil]
      have : unl ((List.replicate p.ns.length (-1 : Int)).set r.toNat 0) ≤ p.ns.length := by
        unfold unl
        refine Nat.le_trans List.countP_le_length ?_
        simp
      omega
  · unfold srch
    simp only [↓EVP0, EVQ0, EVQ1, EVQ2, EVQ3, EVQ4, EVA, EVK, EVF, ↓reduceIte, Nat.reduceEqDiff, Nat.reduceAdd, Nat.reduceSub, Nat.reduceMul, Nat.reduceLT, Nat.reduceLeDiff, reduceCtorEq, Int.reduceToNat, Int.reduceLT, Int.reduceLE, Int.reduceAdd, Int.reduceSub, Int.reduceMul, Int.reduceNeg, Int.reduceEq, Nat.reduceMod, forall_eq_or_imp, forall_eq, forall_const, cond_true, cond_false, decide_true, decide_false, true_imp_iff, implies_true, Int.cast_ofNat_Int, forall_eq']
  rintro b ⟨hb, ho, hmu⟩
  have hql : b.xs.length - b.off = b.q.length := by simp [HB.q]
  unfold lb37_1 srch
  simp only [↓EVP0, EVQ0, EVQ1, EVQ2, EVQ3, EVQ4, EVA, EVK, EVF, ↓reduceIte, Nat.reduceEqDiff, Nat.reduceAdd, Nat.reduceSub, Nat.reduceMul, Nat.reduceLT, Nat.reduceLeDiff, reduceCtorEq, Int.reduceToNat, Int.reduceLT, Int.reduceLE, Int.reduceAdd, Int.reduceSub, Int.reduceMul, Int.reduceNeg, Int.reduceEq, Nat.reduceMod, forall_eq_or_imp, forall_eq, forall_const, cond_true, cond_false, decide_true, decide_false, true_imp_iff, implies_true, Int.cast_ofNat_Int, forall_eq']
  intro _
  refine ⟨fun hg => ?_, fun hg => ?_⟩
  · have hne : 0 < b.q.length := by simp at hg; omega
    obtain ⟨u, rest, hq⟩ : ∃ u rest, b.q = u :: rest := by
      cases hq : b.q with
      | nil => rw [hq] at hne; simp at hne
      | cons u rest => exact ⟨u, rest, rfl⟩
    have hu : b.xs.getD b.off 0 = u := by
      have : (b.xs.drop b.off)[0]? = some u := by rw [show b.xs.drop b.off = u :: rest from hq]; rfl
      rw [List.getElem?_drop, Nat.add_zero] at this
      rw [List.getD_eq_getElem?_getD, this]; rfl
    obtain ⟨hpop, hpm⟩ := hb.popd hq
    have e1 : b.xs.length - b.off - 1 = b.xs.length - (b.off + 1) := by omega
    rw [hu, e1]
    refine ⟨by omega, by omega, ⟨by omega, by omega⟩, fun _ => ?_⟩
    have hrange : ∀ i, i ≤ p.cs.length → (foldC p.cs up u (pop b) i).off ≤ (foldC p.cs up u (pop b) i).xs.length := by
      have hvis : ∀ (b : HB) (u y : Int), b.off ≤ b.xs.length → (visit b u y).off ≤ (visit b u y).xs.length := by
        intro b u y h
        unfold visit
        cases decide (lv b y < 0)
        · exact h
        · exact Nat.zero_le _
      intro i
      induction i with
      | zero => intro _; show b.off + 1 ≤ b.xs.length; omega
      | succ i ih =>
        intro hi
        have := ih (by omega)
        show (stepC _ _ _ _).off ≤ (stepC _ _ _ _).xs.length
        unfold stepC
        cases up.getD i false <;> simp only [cond_true, cond_false]
        · exact this
        · cases decide ((p.cs.getD i default).a = u) <;> cases decide ((p.cs.getD i default).b = u) <;> simp only [cond_true, cond_false]
          · exact this
          · exact hvis _ _ _ this
          · exact hvis _ _ _ this
          · exact hvis _ _ _ (hvis _ _ _ this)
    refine lwp_for (α := Unit) p.cs.length (fun i _ => True) (fun i _ => [(2, .rsl 1 up.length (boolsF up)), (3, .ptr 0 0 0 0 0), (7, .ptr 2 0 0 0 0), (9, .ptr 4 0 0 0 0), (10, .ptr 5 0 0 0 0), (11, .fn 42 [.ptr 2 0 0 0 0, .ptr 5 0 0 0 0, .ptr 4 0 0 0 0]), (42, .rsl 6 p.cs.length (cbsF p.cs)), (43, .sc (.int .i64 p.cs.length)), (44, .sc (.int .i64 i))])
      (fun i _ => srch p (foldC p.cs up u (pop b) i) p.ns.length ++ [(0, .box [.sc (.int .i64 u)])]) () trivial ?_ (fun _ _ => Nat.zero_le _) ?_
    · simp only [foldC, pop, srch]
      simp only [↓EVP0, EVQ0, EVQ1, EVQ2, EVQ3, EVQ4, EVA, EVK, EVF, ↓reduceIte, Nat.reduceEqDiff, Nat.reduceAdd, Nat.reduceSub, Nat.reduceMul, Nat.reduceLT, Nat.reduceLeDiff, reduceCtorEq, Int.reduceToNat, Int.reduceLT, Int.reduceLE, Int.reduceAdd, Int.reduceSub, Int.reduceMul, Int.reduceNeg, Int.reduceEq, Nat.reduceMod, forall_eq_or_imp, forall_eq, forall_const, cond_true, cond_false, decide_true, decide_false, true_imp_iff, implies_true, Int.cast_ofNat_Int, forall_eq']
    intro i _ hi _
    obtain ⟨hv, hvm⟩ := hpop.fold hU hr i hi
    have hro := hrange i hi
    have hstep : foldC p.cs up u (pop b) (i + 1) = stepC (foldC p.cs up u (pop b) i) u (p.cs.getD i default) (up.getD i false) := rfl
    rw [hstep]
    have hdone : i = p.cs.length → BInv p.ns.length (upU p.cs up) r (foldC p.cs up u (pop b) i) := fun e => by subst e; exact hv.done
    generalize foldC p.cs up u (pop b) i = B at hv hvm hro hdone ⊢
    have hcall : ∀ (B : HB) (U' : List Cb) (y : Int) (ob : List LV), allC 7 ob → VInv p.ns.length (upU p.cs up) U' r u B → B.mu ≤ 100 → B.off ≤ B.xs.length → inN p.ns.length y →
        LCall Try.prog 42 [.sc (.int .i64 y), .ptr 2 0 0 0 0, .ptr 5 0 0 0 0, .ptr 4 0 0 0 0] (mkH (srch p B p.ns.length ++ [(0, .box [.sc (.int .i64 u)]), (0, .box ob)])) (.tup []) (mkH (srch p (visit B u y) p.ns.length ++ [(0, .box [.sc (.int .i64 u)]), (0, .box ob)])) := by
      intro B U' y ob hob hv hmu hro hy
      refine ev_visit p B p.ns.length u y ob hob hv.len hy hv.ur.1 ?_ hro ?_
      · obtain ⟨g1, g2⟩ := hv.ex u hv.ur.1 hv.ur.2
        have := W_least hU hr g1 g2
        have := hv.ur.2
        unfold In64; omega
      · unfold HB.mu at hmu; omega
    unfold lb37_0 srch
    simp only [↓EVP0, EVQ0, EVQ1, EVQ2, EVQ3, EVQ4, EVA, EVK, EVF, ↓reduceIte, Nat.reduceEqDiff, Nat.reduceAdd, Nat.reduceSub, Nat.reduceMul, Nat.reduceLT, Nat.reduceLeDiff, reduceCtorEq, Int.reduceToNat, Int.reduceLT, Int.reduceLE, Int.reduceAdd, Int.reduceSub, Int.reduceMul, Int.reduceNeg, Int.reduceEq, Nat.reduceMod, forall_eq_or_imp, forall_eq, forall_const, cond_true, cond_false, decide_true, decide_false, true_imp_iff, implies_true, Int.cast_ofNat_Int, forall_eq']
    refine ⟨fun hg => ?_, fun hg => ?_⟩
    · have hi2 : i < p.cs.length := by simpa using hg
      have hcm : (p.cs.getD i default) ∈ p.cs := by rw [List.getD_eq_getElem?_getD, List.getElem?_eq_getElem hi2]; exact List.getElem_mem hi2
      have hcU : up.getD i false = true → (p.cs.getD i default) ∈ upU p.cs up := fun ho => upP_mem.2 ⟨i, hi2, ho, rfl⟩
      obtain ⟨hca, hcb⟩ := hC _ hcm
      generalize p.cs.getD i default = c at hcm hcU hca hcb ⊢
      generalize hon0 : up.getD i false = on at hcU ⊢
      have hi64 : In64 ((i : Int) + 1) := by unfold In64; omega
      have hpl : ∀ B1 : HB, B1 = stepC B u c on → B1.l = (stepC B u c on).l ∧ (B1.ver = (stepC B u c on).ver ∧ B1.xs = (stepC B u c on).xs) ∧ [LV.sl 3 B1.ver 1 B1.off (B1.xs.length - B1.off)] = [LV.sl 3 (stepC B u c on).ver 1 (stepC B u c on).off ((stepC B u c on).xs.length - (stepC B u c on).off)] := fun B1 e => by subst e; exact ⟨rfl, ⟨rfl, rfl⟩, rfl⟩
      refine ⟨⟨by omega, by omega⟩, ⟨by omega, by omega⟩, fun g1 => ⟨by decide, ?_⟩, fun g1 => ⟨⟨by omega, by omega⟩, fun g2 => ⟨by decide, ?_⟩, fun g2 => ⟨hi64, hi2, (), ?_⟩⟩⟩
      · refine callK_mut (hcall B _ c.b _ (by simp only [↓EVP0, EVQ0, EVQ1, EVQ2, EVQ3, EVQ4, EVA, EVK, EVF, ↓reduceIte, Nat.reduceEqDiff, Nat.reduceAdd, Nat.reduceSub, Nat.reduceMul, Nat.reduceLT, Nat.reduceLeDiff, reduceCtorEq, Int.reduceToNat, Int.reduceLT, Int.reduceLE, Int.reduceAdd, Int.reduceSub, Int.reduceMul, Int.reduceNeg, Int.reduceEq, Nat.reduceMod, forall_eq_or_imp, forall_eq, forall_const, cond_true, cond_false, decide_true, decide_false, true_imp_iff, implies_true, Int.cast_ofNat_Int, forall_eq']) hv (by omega) hro hcb) ?_
        have hon : on = true ∧ c.a = u := by cases on <;> simp at g1 ⊢; exact g1
        obtain ⟨v1, _, _⟩ := hv.vis hU hr (y := c.b) ⟨c, hcU hon.1, .inl ⟨hon.2, rfl⟩⟩
        have v2 := visit_mu hv hcb
        have v3 : (visit B u c.b).off ≤ (visit B u c.b).xs.length := by
          unfold visit
          cases decide (lv B c.b < 0)
          · exact hro
          · exact Nat.zero_le _
        unfold srch
        simp only [↓EVP0, EVQ0, EVQ1, EVQ2, EVQ3, EVQ4, EVA, EVK, EVF, ↓reduceIte, Nat.reduceEqDiff, Nat.reduceAdd, Nat.reduceSub, Nat.reduceMul, Nat.reduceLT, Nat.reduceLeDiff, reduceCtorEq, Int.reduceToNat, Int.reduceLT, Int.reduceLE, Int.reduceAdd, Int.reduceSub, Int.reduceMul, Int.reduceNeg, Int.reduceEq, Nat.reduceMod, forall_eq_or_imp, forall_eq, forall_const, cond_true, cond_false, decide_true, decide_false, true_imp_iff, implies_true, Int.cast_ofNat_Int, forall_eq']
        simp only [hon0]
        refine ⟨⟨by omega, by omega⟩, fun g2 => ⟨by decide, ?_⟩, fun g2 => ⟨hi64, hi2, (), ?_⟩⟩
        · refine callK_mut (hcall (visit B u c.b) _ c.a _ (by simp only [↓EVP0, EVQ0, EVQ1, EVQ2, EVQ3, EVQ4, EVA, EVK, EVF, ↓reduceIte, Nat.reduceEqDiff, Nat.reduceAdd, Nat.reduceSub, Nat.reduceMul, Nat.reduceLT, Nat.reduceLeDiff, reduceCtorEq, Int.reduceToNat, Int.reduceLT, Int.reduceLE, Int.reduceAdd, Int.reduceSub, Int.reduceMul, Int.reduceNeg, Int.reduceEq, Nat.reduceMod, forall_eq_or_imp, forall_eq, forall_const, cond_true, cond_false, decide_true, decide_false, true_imp_iff, implies_true, Int.cast_ofNat_Int, forall_eq']) v1 (by omega) v3 hca) ?_
          unfold srch
          simp only [↓EVP0, EVQ0, EVQ1, EVQ2, EVQ3, EVQ4, EVA, EVK, EVF, ↓reduceIte, Nat.reduceEqDiff, Nat.reduceAdd, Nat.reduceSub, Nat.reduceMul, Nat.reduceLT, Nat.reduceLeDiff, reduceCtorEq, Int.reduceToNat, Int.reduceLT, Int.reduceLE, Int.reduceAdd, Int.reduceSub, Int.reduceMul, Int.reduceNeg, Int.reduceEq, Nat.reduceMod, forall_eq_or_imp, forall_eq, forall_const, cond_true, cond_false, decide_true, decide_false, true_imp_iff, implies_true, Int.cast_ofNat_Int, forall_eq']
          exact ⟨hi64, hi2, (), hpl _ (by unfold stepC; rw [g1, g2]; rfl)⟩
        · exact hpl _ (by unfold stepC; rw [g1, g2]; rfl)
      · refine callK_mut (hcall B _ c.a _ (by simp only [↓EVP0, EVQ0, EVQ1, EVQ2, EVQ3, EVQ4, EVA, EVK, EVF, ↓reduceIte, Nat.reduceEqDiff, Nat.reduceAdd, Nat.reduceSub, Nat.reduceMul, Nat.reduceLT, Nat.reduceLeDiff, reduceCtorEq, Int.reduceToNat, Int.reduceLT, Int.reduceLE, Int.reduceAdd, Int.reduceSub, Int.reduceMul, Int.reduceNeg, Int.reduceEq, Nat.reduceMod, forall_eq_or_imp, forall_eq, forall_const, cond_true, cond_false, decide_true, decide_false, true_imp_iff, implies_true, Int.cast_ofNat_Int, forall_eq']) hv (by omega) hro hca) ?_
        unfold srch
        simp only [↓EVP0, EVQ0, EVQ1, EVQ2, EVQ3, EVQ4, EVA, EVK, EVF, ↓reduceIte, Nat.reduceEqDiff, Nat.reduceAdd, Nat.reduceSub, Nat.reduceMul, Nat.reduceLT, Nat.reduceLeDiff, reduceCtorEq, Int.reduceToNat, Int.reduceLT, Int.reduceLE, Int.reduceAdd, Int.reduceSub, Int.reduceMul, Int.reduceNeg, Int.reduceEq, Nat.reduceMod, forall_eq_or_imp, forall_eq, forall_const, cond_true, cond_false, decide_true, decide_false, true_imp_iff, implies_true, Int.cast_ofNat_Int, forall_eq']
        exact ⟨hi64, hi2, (), hpl _ (by unfold stepC; rw [g1, g2]; rfl)⟩
      · exact hpl _ (by unfold stepC; rw [g1, g2]; rfl)
    · have hii : i = p.cs.length := by simp at hg; omega
      exact ⟨B, ⟨hdone hii, hro, by omega⟩, ⟨rfl, ⟨rfl, rfl⟩, rfl⟩, by omega⟩
  · have hqn : b.q = [] := by
      have : b.q.length = 0 := by simp at hg; omega
      exact List.length_eq_zero_iff.1 this
    have hfin := hb.final hU hr hqn
    refine ⟨by rw [distL_length], by rw [hb.len]; exact Nat.le_refl _, fun i hi => by rw [hfin]⟩
end Go.Proofs.Ytggaonafmiklaaa
