/- Chapter 21: the law CertificateTurns, walked; The canonical ranks increase along every turn that does not lead upward after a downward step. Conditions: none. -/
import Derived.Test.YteblljpbnpaplaaMI
namespace Go.Proofs.Yteblljpbnpaplaa
set_option linter.unusedSimpArgs false
set_option linter.unusedVariables false
open Go.RowKit
set_option maxRecDepth 20000

/-- Turns that are listed. -/
def TnOk (r : List Int) (b : Nat) (T : List Dp) : Prop := T.length ≤ b ∧ ∀ d, d ∈ T → inN r.length d.f ∧ inN r.length d.t ∧ lvl r d.f < lvl r d.t
theorem crk_neg {p : Pl} {L : List Int} {c : Nat} (hc : c < 2 * p.cs.length) (h : okC p L (c / 2) = false) : (crkL p L p.cs.length).getD c 0 = -1 := by
  have h1 := crk_get (p := p) (L := L) (i := c / 2) (s := c % 2) (Nat.mod_lt _ (by decide)) (k := p.cs.length) (by omega)
  rw [show 2 * (c / 2) + c % 2 = c by omega] at h1
  rw [h1]
  unfold okC at h
  have h2 : (bif decide (lvl L (chE p (c / 2) (c % 2)).1 < 0) then true else decide (lvl L (chE p (c / 2) (c % 2)).2 < 0)) = true := by
    unfold chE lvl
    by_cases e : c % 2 = 0
    · rw [if_pos e]
      show (bif decide (L.getD (p.cs.getD (c / 2) default).a.toNat 0 < 0) then true else decide (L.getD (p.cs.getD (c / 2) default).b.toNat 0 < 0)) = true
      revert h
      cases decide (L.getD (p.cs.getD (c / 2) default).a.toNat 0 < 0) <;> cases decide (L.getD (p.cs.getD (c / 2) default).b.toNat 0 < 0) <;> intro h <;> first | rfl | simp at h
    · rw [if_neg e]
      show (bif decide (L.getD (p.cs.getD (c / 2) default).b.toNat 0 < 0) then true else decide (L.getD (p.cs.getD (c / 2) default).a.toNat 0 < 0)) = true
      revert h
      cases decide (L.getD (p.cs.getD (c / 2) default).a.toNat 0 < 0) <;> cases decide (L.getD (p.cs.getD (c / 2) default).b.toNat 0 < 0) <;> intro h <;> first | rfl | simp at h
  unfold rnkE
  rw [h2]; rfl
theorem dT_len (L : List Dp) : (dT L).length = if L = [] then 0 else 2 := by unfold dT; split <;> rfl
theorem dS_below2 (L : List Dp) : belowV ((dT L).length + 1 + 1) (dS 3 L) := by
  by_cases h : L = []
  · rw [h]; trivial
  · rw [dS_ne h, dT_ne h]; show 3 < 4; decide
theorem dT_weak2 (a b : Nat × LO) (L : List Dp) {n : Nat} : weakH n (mkH (a :: b :: dT L)) 2 (dT L) := by
  by_cases h : L = []
  · rw [h]; trivial
  · rw [dT_ne h]; exact ⟨rfl, bs_all3, rfl, ap_allD, trivial⟩
theorem dT_one (d : Dp) : dT [d] = [(0, .row 3 1 (fun i => List.take 3 (List.drop (i * 3) (dpL d)))), (0, .row 3 1 (apD [d]))] := rfl
theorem ev_lawTurns (p : Pl) (hp : PlOk p) (up : List Bool) (root : Int) : Ev Try.prog 8 [plV p, boolsV up, .sc (.int .i64 root)] (.sc (.bool true)) := by
  have h1 := ev_awake
  have h2 := ev_of p hp up root
  have h3 := fun L => ev_certOf p hp L
  have h4 := fun L ho c hc => ev_ends p hp L ho c hc
  have h5 := fun (l : List Dp) r hl => ev_check l r hl
  unfold plV boolsV intsV dpsV at *
  refine ev_fn Try.func8 comp8 (show 3 ≤ Try.f8.ntmps by decide) ?_; unfold cf8 rf8; simp only [↓EVP0, EVQ0, EVQ1, EVQ2, EVQ3, EVQ4, EVA, EVK, EVF,EVFE, ↓reduceIte, Nat.reduceEqDiff, Nat.reduceAdd, Nat.reduceSub, Nat.reduceMul, Nat.reduceLT, Nat.reduceLeDiff, reduceCtorEq, Int.reduceToNat, Int.reduceLT, Int.reduceLE, Int.reduceAdd, Int.reduceSub, Int.reduceMul, Int.reduceNeg, Int.reduceEq, Nat.reduceMod, forall_eq_or_imp, forall_eq, forall_const, cond_true, cond_false, decide_true, decide_false, true_imp_iff, implies_true, Int.cast_ofNat_Int, forall_eq']
  refine callK_ro (h1) ?_ ?_
  · simp only [↓EVP0, EVQ0, EVQ1, EVQ2, EVQ3, EVQ4, EVA, EVK, EVF,EVFE, ↓reduceIte, Nat.reduceEqDiff, Nat.reduceAdd, Nat.reduceSub, Nat.reduceMul, Nat.reduceLT, Nat.reduceLeDiff, reduceCtorEq, Int.reduceToNat, Int.reduceLT, Int.reduceLE, Int.reduceAdd, Int.reduceSub, Int.reduceMul, Int.reduceNeg, Int.reduceEq, Nat.reduceMod, forall_eq_or_imp, forall_eq, forall_const, cond_true, cond_false, decide_true, decide_false, true_imp_iff, implies_true, Int.cast_ofNat_Int, forall_eq']
  simp only [↓EVP0, EVQ0, EVQ1, EVQ2, EVQ3, EVQ4, EVA, EVK, EVF,EVFE, ↓reduceIte, Nat.reduceEqDiff, Nat.reduceAdd, Nat.reduceSub, Nat.reduceMul, Nat.reduceLT, Nat.reduceLeDiff, reduceCtorEq, Int.reduceToNat, Int.reduceLT, Int.reduceLE, Int.reduceAdd, Int.reduceSub, Int.reduceMul, Int.reduceNeg, Int.reduceEq, Nat.reduceMod, forall_eq_or_imp, forall_eq, forall_const, cond_true, cond_false, decide_true, decide_false, true_imp_iff, implies_true, Int.cast_ofNat_Int, forall_eq']
  refine ⟨fun _ => ?_, fun _ => ?_⟩
  · refine callK_ro (h1) ?_ ?_
    · simp only [↓EVP0, EVQ0, EVQ1, EVQ2, EVQ3, EVQ4, EVA, EVK, EVF,EVFE, ↓reduceIte, Nat.reduceEqDiff, Nat.reduceAdd, Nat.reduceSub, Nat.reduceMul, Nat.reduceLT, Nat.reduceLeDiff, reduceCtorEq, Int.reduceToNat, Int.reduceLT, Int.reduceLE, Int.reduceAdd, Int.reduceSub, Int.reduceMul, Int.reduceNeg, Int.reduceEq, Nat.reduceMod, forall_eq_or_imp, forall_eq, forall_const, cond_true, cond_false, decide_true, decide_false, true_imp_iff, implies_true, Int.cast_ofNat_Int, forall_eq']
    simp only [↓EVP0, EVQ0, EVQ1, EVQ2, EVQ3, EVQ4, EVA, EVK, EVF,EVFE, ↓reduceIte, Nat.reduceEqDiff, Nat.reduceAdd, Nat.reduceSub, Nat.reduceMul, Nat.reduceLT, Nat.reduceLeDiff, reduceCtorEq, Int.reduceToNat, Int.reduceLT, Int.reduceLE, Int.reduceAdd, Int.reduceSub, Int.reduceMul, Int.reduceNeg, Int.reduceEq, Nat.reduceMod, forall_eq_or_imp, forall_eq, forall_const, cond_true, cond_false, decide_true, decide_false, true_imp_iff, implies_true, Int.cast_ofNat_Int, forall_eq']
  refine callK_ro (h2) ?_ ?_
  · simp only [↓EVP0, EVQ0, EVQ1, EVQ2, EVQ3, EVQ4, EVA, EVK, EVF,EVFE, ↓reduceIte, Nat.reduceEqDiff, Nat.reduceAdd, Nat.reduceSub, Nat.reduceMul, Nat.reduceLT, Nat.reduceLeDiff, reduceCtorEq, Int.reduceToNat, Int.reduceLT, Int.reduceLE, Int.reduceAdd, Int.reduceSub, Int.reduceMul, Int.reduceNeg, Int.reduceEq, Nat.reduceMod, forall_eq_or_imp, forall_eq, forall_const, cond_true, cond_false, decide_true, decide_false, true_imp_iff, implies_true, Int.cast_ofNat_Int, forall_eq']
  simp only [↓EVP0, EVQ0, EVQ1, EVQ2, EVQ3, EVQ4, EVA, EVK, EVF,EVFE, ↓reduceIte, Nat.reduceEqDiff, Nat.reduceAdd, Nat.reduceSub, Nat.reduceMul, Nat.reduceLT, Nat.reduceLeDiff, reduceCtorEq, Int.reduceToNat, Int.reduceLT, Int.reduceLE, Int.reduceAdd, Int.reduceSub, Int.reduceMul, Int.reduceNeg, Int.reduceEq, Nat.reduceMod, forall_eq_or_imp, forall_eq, forall_const, cond_true, cond_false, decide_true, decide_false, true_imp_iff, implies_true, Int.cast_ofNat_Int, forall_eq']
  refine ⟨fun _ => trivial, fun he => ?_⟩
  obtain ⟨hv, hup, hin, hof⟩ := of_ok (p := p) (up := up) (r := root) (by simpa using he)
  have ho := ord_dist (up := up) hv hin
  rw [hof]
  have hc32 := (valid_of hv).c32
  generalize distL p.ns.length (upU p.cs up) root = L at *
  have h3 := h3 L
  unfold cofE at h3
  rw [ho] at h3
  have hrl := crk_len p L p.cs.length
  have h4 := h4 L ho
  simp only [↓EVP0, EVQ0, EVQ1, EVQ2, EVQ3, EVQ4, EVA, EVK, EVF,EVFE, ↓reduceIte, Nat.reduceEqDiff, Nat.reduceAdd, Nat.reduceSub, Nat.reduceMul, Nat.reduceLT, Nat.reduceLeDiff, reduceCtorEq, Int.reduceToNat, Int.reduceLT, Int.reduceLE, Int.reduceAdd, Int.reduceSub, Int.reduceMul, Int.reduceNeg, Int.reduceEq, Nat.reduceMod, forall_eq_or_imp, forall_eq, forall_const, cond_true, cond_false, decide_true, decide_false, true_imp_iff, implies_true, Int.cast_ofNat_Int, forall_eq']
  refine callK_ro (h3) ?_ ?_
  · simp only [↓EVP0, EVQ0, EVQ1, EVQ2, EVQ3, EVQ4, EVA, EVK, EVF,EVFE, ↓reduceIte, Nat.reduceEqDiff, Nat.reduceAdd, Nat.reduceSub, Nat.reduceMul, Nat.reduceLT, Nat.reduceLeDiff, reduceCtorEq, Int.reduceToNat, Int.reduceLT, Int.reduceLE, Int.reduceAdd, Int.reduceSub, Int.reduceMul, Int.reduceNeg, Int.reduceEq, Nat.reduceMod, forall_eq_or_imp, forall_eq, forall_const, cond_true, cond_false, decide_true, decide_false, true_imp_iff, implies_true, Int.cast_ofNat_Int, forall_eq']
  simp only [↓EVP0, EVQ0, EVQ1, EVQ2, EVQ3, EVQ4, EVA, EVK, EVF,EVFE, ↓reduceIte, Nat.reduceEqDiff, Nat.reduceAdd, Nat.reduceSub, Nat.reduceMul, Nat.reduceLT, Nat.reduceLeDiff, reduceCtorEq, Int.reduceToNat, Int.reduceLT, Int.reduceLE, Int.reduceAdd, Int.reduceSub, Int.reduceMul, Int.reduceNeg, Int.reduceEq, Nat.reduceMod, forall_eq_or_imp, forall_eq, forall_const, cond_true, cond_false, decide_true, decide_false, true_imp_iff, implies_true, Int.cast_ofNat_Int, forall_eq']
  refine ⟨by unfold In64; omega, fun h => ?_, fun _ => ?_⟩
  · have : decide (((crkL p L p.cs.length).length : Int) = 2 * p.cs.length) = true := decide_eq_true (by omega)
    rw [this] at h; simp at h
  have htl := fun c d hc hd oc od hm hr => turn_lt ho (c := c) (d := d) hc hd oc od hm hr
  have hng := fun c hc h => crk_neg (p := p) (L := L) (c := c) hc h
  generalize crkL p L p.cs.length = r at *
  intro _
  refine lwp_for (α := List Dp) r.length (fun c T => TnOk r (c * 64) T) (fun c T => [(9, .rsl 1 r.length (intsF r)), (11, .fn 26 [.ptr 0 0 0 0 0, .ptr 1 0 0 0 0]), (12, dS 3 T), (71, .sc (.int .i64 r.length)), (72, .sc (.int .i64 c))])
    (fun _ T => (0, .box [.rsl 3 p.ns.length (ndsF p.ns), .rsl 6 p.cs.length (cbsF p.cs)]) :: (0, .box [.rsl 1 L.length (intsF L)]) :: dT T) [] ⟨Nat.zero_le _, fun d hd => by simp at hd⟩ ?_ (fun _ _ => Nat.zero_le _) ?_
  · rw [dS_nil, dT_nil]
    simp only [↓EVP0, EVQ0, EVQ1, EVQ2, EVQ3, EVQ4, EVA, EVK, EVF,EVFE, ↓reduceIte, Nat.reduceEqDiff, Nat.reduceAdd, Nat.reduceSub, Nat.reduceMul, Nat.reduceLT, Nat.reduceLeDiff, reduceCtorEq, Int.reduceToNat, Int.reduceLT, Int.reduceLE, Int.reduceAdd, Int.reduceSub, Int.reduceMul, Int.reduceNeg, Int.reduceEq, Nat.reduceMod, forall_eq_or_imp, forall_eq, forall_const, cond_true, cond_false, decide_true, decide_false, true_imp_iff, implies_true, Int.cast_ofNat_Int, forall_eq']
  intro c T hc hT
  by_cases hc2 : c < r.length
  · have hcd : decide ((c : Int) < r.length) = true := decide_eq_true (by omega)
    have cI : In64 ((c : Int) + 1) := by unfold In64; omega
    have cc : 0 ≤ (c : Int) ∧ (c : Int) < r.length := by omega
    have h6 := h4 c (by omega)
    unfold lb8_1
    simp only [hcd, ↓EVP0, EVQ0, EVQ1, EVQ2, EVQ3, EVQ4, EVA, EVK, EVF,EVFE, ↓reduceIte, Nat.reduceEqDiff, Nat.reduceAdd, Nat.reduceSub, Nat.reduceMul, Nat.reduceLT, Nat.reduceLeDiff, reduceCtorEq, Int.reduceToNat, Int.reduceLT, Int.reduceLE, Int.reduceAdd, Int.reduceSub, Int.reduceMul, Int.reduceNeg, Int.reduceEq, Nat.reduceMod, forall_eq_or_imp, forall_eq, forall_const, cond_true, cond_false, decide_true, decide_false, true_imp_iff, implies_true, Int.cast_ofNat_Int, forall_eq']
    refine ⟨by kernel_rfl, ?_⟩
    refine callK_frzF h6 ⟨roToF_self trivial, roTo2_box (Nat.le_add_left 1 _) rfl ⟨⟨rfl, trivial⟩, ⟨rfl, trivial⟩, trivial⟩, roTo2_box (Nat.le_add_left 2 _) rfl ⟨⟨rfl, trivial⟩, trivial⟩, trivial⟩ ⟨trivial, trivial, trivial, trivial, trivial⟩ ?_
    simp only [↓EVP0, EVQ0, EVQ1, EVQ2, EVQ3, EVQ4, EVA, EVK, EVF,EVFE, ↓reduceIte, Nat.reduceEqDiff, Nat.reduceAdd, Nat.reduceSub, Nat.reduceMul, Nat.reduceLT, Nat.reduceLeDiff, reduceCtorEq, Int.reduceToNat, Int.reduceLT, Int.reduceLE, Int.reduceAdd, Int.reduceSub, Int.reduceMul, Int.reduceNeg, Int.reduceEq, Nat.reduceMod, forall_eq_or_imp, forall_eq, forall_const, cond_true, cond_false, decide_true, decide_false, true_imp_iff, implies_true, Int.cast_ofNat_Int, forall_eq']
    cases hoc : okC p L (c / 2)
    · have hrc := hng c (by omega) hoc
      rw [decide_eq_true hrc]
      simp only [↓EVP0, EVQ0, EVQ1, EVQ2, EVQ3, EVQ4, EVA, EVK, EVF,EVFE, ↓reduceIte, Nat.reduceEqDiff, Nat.reduceAdd, Nat.reduceSub, Nat.reduceMul, Nat.reduceLT, Nat.reduceLeDiff, reduceCtorEq, Int.reduceToNat, Int.reduceLT, Int.reduceLE, Int.reduceAdd, Int.reduceSub, Int.reduceMul, Int.reduceNeg, Int.reduceEq, Nat.reduceMod, forall_eq_or_imp, forall_eq, forall_const, cond_true, cond_false, decide_true, decide_false, true_imp_iff, implies_true, Int.cast_ofNat_Int, forall_eq']
      exact ⟨cc, cI, hc2, T, ⟨by have := hT.1; omega, hT.2⟩, Nat.le_refl _, ⟨⟨by omega, by omega⟩, rfl, dS_below2 T⟩, dT_weak2 _ _ T⟩
    · simp only [↓EVP0, EVQ0, EVQ1, EVQ2, EVQ3, EVQ4, EVA, EVK, EVF,EVFE, ↓reduceIte, Nat.reduceEqDiff, Nat.reduceAdd, Nat.reduceSub, Nat.reduceMul, Nat.reduceLT, Nat.reduceLeDiff, reduceCtorEq, Int.reduceToNat, Int.reduceLT, Int.reduceLE, Int.reduceAdd, Int.reduceSub, Int.reduceMul, Int.reduceNeg, Int.reduceEq, Nat.reduceMod, forall_eq_or_imp, forall_eq, forall_const, cond_true, cond_false, decide_true, decide_false, true_imp_iff, implies_true, Int.cast_ofNat_Int, forall_eq']
      intro _
      generalize hmv : (chE p (c / 2) (c % 2)).2 = m at *
      generalize hrs : aboveB L m (chE p (c / 2) (c % 2)).1 = rs at *
      refine lwp_for (α := List Dp) r.length (fun d T => TnOk r (c * 64 + d) T) (fun d T => [(9, .rsl 1 r.length (intsF r)), (11, .fn 26 [.ptr 0 0 0 0 0, .ptr 1 0 0 0 0]), (12, dS 3 T), (13, .sc (.int .i64 c)), (15, .sc (.int .i64 m)), (16, .sc (.bool rs)), (71, .sc (.int .i64 r.length)), (72, .sc (.int .i64 c)), (91, .sc (.int .i64 r.length)), (92, .sc (.int .i64 d))])
        (fun _ T => (0, .box [.rsl 3 p.ns.length (ndsF p.ns), .rsl 6 p.cs.length (cbsF p.cs)]) :: (0, .box [.rsl 1 L.length (intsF L)]) :: dT T) T hT ?_ (fun _ _ => Nat.zero_le _) ?_
      · simp only [↓EVP0, EVQ0, EVQ1, EVQ2, EVQ3, EVQ4, EVA, EVK, EVF,EVFE, ↓reduceIte, Nat.reduceEqDiff, Nat.reduceAdd, Nat.reduceSub, Nat.reduceMul, Nat.reduceLT, Nat.reduceLeDiff, reduceCtorEq, Int.reduceToNat, Int.reduceLT, Int.reduceLE, Int.reduceAdd, Int.reduceSub, Int.reduceMul, Int.reduceNeg, Int.reduceEq, Nat.reduceMod, forall_eq_or_imp, forall_eq, forall_const, cond_true, cond_false, decide_true, decide_false, true_imp_iff, implies_true, Int.cast_ofNat_Int, forall_eq']
        exact ⟨Nat.le_refl _, ⟨⟨by omega, by omega⟩, dS_below2 T⟩, dT_weak2 _ _ T⟩
      clear hT T
      intro d T hd hT
      by_cases hd2 : d < r.length
      · have hdd : decide ((d : Int) < r.length) = true := decide_eq_true (by omega)
        have dI : In64 ((d : Int) + 1) := by unfold In64; omega
        have h7 := h4 d (by omega)
        unfold lb8_0
        simp only [hdd, ↓EVP0, EVQ0, EVQ1, EVQ2, EVQ3, EVQ4, EVA, EVK, EVF,EVFE, ↓reduceIte, Nat.reduceEqDiff, Nat.reduceAdd, Nat.reduceSub, Nat.reduceMul, Nat.reduceLT, Nat.reduceLeDiff, reduceCtorEq, Int.reduceToNat, Int.reduceLT, Int.reduceLE, Int.reduceAdd, Int.reduceSub, Int.reduceMul, Int.reduceNeg, Int.reduceEq, Nat.reduceMod, forall_eq_or_imp, forall_eq, forall_const, cond_true, cond_false, decide_true, decide_false, true_imp_iff, implies_true, Int.cast_ofNat_Int, forall_eq']
        refine ⟨by kernel_rfl, ?_⟩
        refine callK_frzF h7 ⟨roToF_self trivial, roTo2_box (Nat.le_add_left 1 _) rfl ⟨⟨rfl, trivial⟩, ⟨rfl, trivial⟩, trivial⟩, roTo2_box (Nat.le_add_left 2 _) rfl ⟨⟨rfl, trivial⟩, trivial⟩, trivial⟩ ⟨trivial, trivial, trivial, trivial, trivial⟩ ?_
        simp only [↓EVP0, EVQ0, EVQ1, EVQ2, EVQ3, EVQ4, EVA, EVK, EVF,EVFE, ↓reduceIte, Nat.reduceEqDiff, Nat.reduceAdd, Nat.reduceSub, Nat.reduceMul, Nat.reduceLT, Nat.reduceLeDiff, reduceCtorEq, Int.reduceToNat, Int.reduceLT, Int.reduceLE, Int.reduceAdd, Int.reduceSub, Int.reduceMul, Int.reduceNeg, Int.reduceEq, Nat.reduceMod, forall_eq_or_imp, forall_eq, forall_const, cond_true, cond_false, decide_true, decide_false, true_imp_iff, implies_true, Int.cast_ofNat_Int, forall_eq']
        cases hcond : (bif bif okC p L (d / 2) then decide ((chE p (d / 2) (d % 2)).1 = m) else false then bif rs then true else !bif okC p L (d / 2) then aboveB L (chE p (d / 2) (d % 2)).2 (chE p (d / 2) (d % 2)).1 else false else false)
        · refine ⟨fun h => by simp at h, fun _ => ?_⟩
          exact ⟨dI, hd2, T, ⟨by have := hT.1; omega, hT.2⟩, Nat.le_refl _, ⟨⟨by omega, by omega⟩, rfl, dS_below2 T⟩, dT_weak2 _ _ T⟩
        · refine ⟨fun _ => ?_, fun h => by simp at h⟩
          have hgood : inN r.length (c : Int) ∧ inN r.length (d : Int) ∧ lvl r (c : Int) < lvl r (d : Int) := by
            refine ⟨⟨by omega, by omega⟩, ⟨by omega, by omega⟩, ?_⟩
            unfold lvl
            rw [Int.toNat_natCast, Int.toNat_natCast]
            cases od : okC p L (d / 2)
            · rw [od] at hcond; simp at hcond
            · rw [od] at hcond
              by_cases hm2 : (chE p (d / 2) (d % 2)).1 = m
              · refine htl c d (by omega) (by omega) hoc od (hm2.trans hmv.symm) ?_
                rw [hmv, hrs]
                rw [decide_eq_true hm2] at hcond
                cases rs
                · refine .inr ?_
                  simpa using hcond
                · exact .inl rfl
              · rw [decide_eq_false hm2] at hcond; simp at hcond
          have hT2 : TnOk r (c * 64 + (d + 1)) (T ++ [⟨c, d, m⟩]) := by
            refine ⟨by have := hT.1; rw [List.length_append, List.length_singleton]; omega, fun x hx => ?_⟩
            rcases List.mem_append.1 hx with hx | hx
            · exact hT.2 x hx
            · simp only [List.mem_singleton] at hx; rw [hx]; exact hgood
          have hTl := hT.1
          by_cases h0 : T = []
          · subst h0
            rw [dS_nil, dT_nil]
            simp only [↓EVP0, EVQ0, EVQ1, EVQ2, EVQ3, EVQ4, EVA, EVK, EVF,EVFE, ↓reduceIte, Nat.reduceEqDiff, Nat.reduceAdd, Nat.reduceSub, Nat.reduceMul, Nat.reduceLT, Nat.reduceLeDiff, reduceCtorEq, Int.reduceToNat, Int.reduceLT, Int.reduceLE, Int.reduceAdd, Int.reduceSub, Int.reduceMul, Int.reduceNeg, Int.reduceEq, Nat.reduceMod, forall_eq_or_imp, forall_eq, forall_const, cond_true, cond_false, decide_true, decide_false, true_imp_iff, implies_true, Int.cast_ofNat_Int, forall_eq']
            refine ⟨bs_len3 (d := ⟨c, d, m⟩), by unfold appRoom; omega, dI, hd2, [⟨c, d, m⟩], hT2, ?_⟩
            rw [dT_one, dS_one]
            exact ⟨Nat.le_refl _, ⟨⟨by simp, by simp⟩, rfl, show 3 < 4 by decide⟩, rfl, bs_all3, rfl, ap_allD (l := [_]), trivial⟩
          · rw [dS_ne h0, dT_ne h0]
            simp only [↓EVP0, EVQ0, EVQ1, EVQ2, EVQ3, EVQ4, EVA, EVK, EVF,EVFE, ↓reduceIte, Nat.reduceEqDiff, Nat.reduceAdd, Nat.reduceSub, Nat.reduceMul, Nat.reduceLT, Nat.reduceLeDiff, reduceCtorEq, Int.reduceToNat, Int.reduceLT, Int.reduceLE, Int.reduceAdd, Int.reduceSub, Int.reduceMul, Int.reduceNeg, Int.reduceEq, Nat.reduceMod, forall_eq_or_imp, forall_eq, forall_const, cond_true, cond_false, decide_true, decide_false, true_imp_iff, implies_true, Int.cast_ofNat_Int, forall_eq']
            refine ⟨bs_len3 (d := ⟨c, d, m⟩), ⟨Nat.le_refl _, fun i hi => by rw [apD_get hi]; rfl⟩, by unfold appRoom; omega, dI, hd2, T ++ [⟨c, d, m⟩], hT2, ?_⟩
            rw [dT_ne (by simp), dS_ne (by simp), getD_appH h0]
            have hp : 0 < T.length := List.length_pos_iff.2 h0
            have e1 : T.length - 1 + 1 = (T ++ [(⟨c, d, m⟩ : Dp)]).length - 1 := by rw [List.length_append, List.length_singleton]; omega
            exact ⟨Nat.le_succ _, ⟨⟨by simp, by simp⟩, by rw [e1, List.length_append]; rfl, show 3 < 4 by decide⟩, rfl, bs_all3, by rw [← e1]; exact congrArg (Prod.mk _) (apD_row (d := ⟨c, d, m⟩)), ap_allD, trivial⟩
      · obtain rfl : d = r.length := by omega
        have hdd : decide ((r.length : Int) < r.length) = false := decide_eq_false (by omega)
        unfold lb8_0
        simp only [hdd, ↓EVP0, EVQ0, EVQ1, EVQ2, EVQ3, EVQ4, EVA, EVK, EVF,EVFE, ↓reduceIte, Nat.reduceEqDiff, Nat.reduceAdd, Nat.reduceSub, Nat.reduceMul, Nat.reduceLT, Nat.reduceLeDiff, reduceCtorEq, Int.reduceToNat, Int.reduceLT, Int.reduceLE, Int.reduceAdd, Int.reduceSub, Int.reduceMul, Int.reduceNeg, Int.reduceEq, Nat.reduceMod, forall_eq_or_imp, forall_eq, forall_const, cond_true, cond_false, decide_true, decide_false, true_imp_iff, implies_true, Int.cast_ofNat_Int, forall_eq']
        exact ⟨cI, hc2, T, ⟨by have := hT.1; omega, hT.2⟩, Nat.le_refl _, ⟨⟨by omega, by omega⟩, rfl, dS_below2 T⟩, dT_weak2 _ _ T⟩
  · obtain rfl : c = r.length := by omega
    have hcd : decide ((r.length : Int) < r.length) = false := decide_eq_false (by omega)
    unfold lb8_1
    simp only [hcd, ↓EVP0, EVQ0, EVQ1, EVQ2, EVQ3, EVQ4, EVA, EVK, EVF,EVFE, ↓reduceIte, Nat.reduceEqDiff, Nat.reduceAdd, Nat.reduceSub, Nat.reduceMul, Nat.reduceLT, Nat.reduceLeDiff, reduceCtorEq, Int.reduceToNat, Int.reduceLT, Int.reduceLE, Int.reduceAdd, Int.reduceSub, Int.reduceMul, Int.reduceNeg, Int.reduceEq, Nat.reduceMod, forall_eq_or_imp, forall_eq, forall_const, cond_true, cond_false, decide_true, decide_false, true_imp_iff, implies_true, Int.cast_ofNat_Int, forall_eq']
    have hcn : chkL T r = [] := chk_nil.2 hT.2
    have h8 := h5 T r (by have := hT.1; omega)
    rw [hcn] at h8
    by_cases h0 : T = []
    · subst h0
      rw [dS_nil, dT_nil]
      simp only [↓EVP0, EVQ0, EVQ1, EVQ2, EVQ3, EVQ4, EVA, EVK, EVF,EVFE, ↓reduceIte, Nat.reduceEqDiff, Nat.reduceAdd, Nat.reduceSub, Nat.reduceMul, Nat.reduceLT, Nat.reduceLeDiff, reduceCtorEq, Int.reduceToNat, Int.reduceLT, Int.reduceLE, Int.reduceAdd, Int.reduceSub, Int.reduceMul, Int.reduceNeg, Int.reduceEq, Nat.reduceMod, forall_eq_or_imp, forall_eq, forall_const, cond_true, cond_false, decide_true, decide_false, true_imp_iff, implies_true, Int.cast_ofNat_Int, forall_eq']
      refine callK_frz0 (al' := [.rsl 3 0 (dpsF []), .rsl 1 r.length (intsF r)]) h8 ⟨rfl, ⟨rfl, trivial⟩, trivial⟩ ?_
      simp only [↓EVP0, EVQ0, EVQ1, EVQ2, EVQ3, EVQ4, EVA, EVK, EVF,EVFE, ↓reduceIte, Nat.reduceEqDiff, Nat.reduceAdd, Nat.reduceSub, Nat.reduceMul, Nat.reduceLT, Nat.reduceLeDiff, reduceCtorEq, Int.reduceToNat, Int.reduceLT, Int.reduceLE, Int.reduceAdd, Int.reduceSub, Int.reduceMul, Int.reduceNeg, Int.reduceEq, Nat.reduceMod, forall_eq_or_imp, forall_eq, forall_const, cond_true, cond_false, decide_true, decide_false, true_imp_iff, implies_true, Int.cast_ofNat_Int, forall_eq']
    · rw [dS_ne h0, dT_ne h0]
      simp only [↓EVP0, EVQ0, EVQ1, EVQ2, EVQ3, EVQ4, EVA, EVK, EVF,EVFE, ↓reduceIte, Nat.reduceEqDiff, Nat.reduceAdd, Nat.reduceSub, Nat.reduceMul, Nat.reduceLT, Nat.reduceLeDiff, reduceCtorEq, Int.reduceToNat, Int.reduceLT, Int.reduceLE, Int.reduceAdd, Int.reduceSub, Int.reduceMul, Int.reduceNeg, Int.reduceEq, Nat.reduceMod, forall_eq_or_imp, forall_eq, forall_const, cond_true, cond_false, decide_true, decide_false, true_imp_iff, implies_true, Int.cast_ofNat_Int, forall_eq']
      refine callK_frz0 (al' := [.rsl 3 T.length (dpsF T), .rsl 1 r.length (intsF r)]) h8 ⟨ro_deps (by simp [mkH]) rfl, ⟨rfl, trivial⟩, trivial⟩ ?_
      simp only [↓EVP0, EVQ0, EVQ1, EVQ2, EVQ3, EVQ4, EVA, EVK, EVF,EVFE, ↓reduceIte, Nat.reduceEqDiff, Nat.reduceAdd, Nat.reduceSub, Nat.reduceMul, Nat.reduceLT, Nat.reduceLeDiff, reduceCtorEq, Int.reduceToNat, Int.reduceLT, Int.reduceLE, Int.reduceAdd, Int.reduceSub, Int.reduceMul, Int.reduceNeg, Int.reduceEq, Nat.reduceMod, forall_eq_or_imp, forall_eq, forall_const, cond_true, cond_false, decide_true, decide_false, true_imp_iff, implies_true, Int.cast_ofNat_Int, forall_eq']
end Go.Proofs.Yteblljpbnpaplaa
namespace Go.Proofs.Yteblljpbnpaplaa
set_option linter.unusedSimpArgs false
set_option linter.unusedVariables false
open Go.ChangeShapes Go.WideShapes Go.ChangeAt Go.RowKit

theorem law_certificateTurns (lvs : List LV) (h : fitAll Try.prog Try.f8.params.toList lvs) : Ev Try.prog 8 lvs (.sc (.bool true)) := by
  rw [Try.params8] at h
  obtain ⟨a0, l0, rfl, g0, h⟩ := all1 h
  obtain ⟨a1, l1, rfl, g1, h⟩ := all1 h
  obtain ⟨a2, l2, rfl, g2, h⟩ := all1 h
  obtain rfl := all0 h
  obtain ⟨p, ip, hp⟩ := arg_plan g0
  obtain ⟨u, iu, nu⟩ := arg_bools g1
  obtain ⟨r, rfl, hr⟩ := arg_int g2
  exact ev_im (bs := [plV p, boolsV u, .sc (.int .i64 r)]) ⟨ip, iu, Im.refl _, trivial⟩ (ev_lawTurns p hp u r)
set_option maxRecDepth 100000 in
theorem lifted_certificateTurns (os : Os) (started : os.Started) (H : Type) (enc : TypeId × Value → H) :
    ReturnsInHanded {} Try.checked os 8 .any (Rows.certificateTurnsSpec.pre6 enc Try.prog Try.f8 Rows.certificateTurnsRow.domain false) (Rows.certificateTurnsSpec.post enc Try.prog Try.f8 false true false false) := by
  refine law_lifted (C := Try.checked) (tb := 4) Try.own' started Try.laidOut' (by kernel_rfl) Try.func8
    (ChangeSpec.witness6 (enc := enc) (C := Try.checked) false ⟨#[], #[.agg #[.slice none 0 0, .slice none 0 0], .slice none 0 0, .int .i64 0], []⟩ 8 (by kernel_rfl) (by kernel_rfl) (by kernel_rfl) (by kernel_rfl))
    (by kernel_rfl) Try.underlying4 rfl (fun ds hd => ?_) (by kernel_rfl) (fun _ => trivial) law_certificateTurns
  have hd : ds.length = 3 := hd
  match ds, hd with
  | [d1, d2, d3], _ => exact ⟨rfl, rfl, rfl⟩
theorem certificateTurns_holds : Rows.CertificateTurnsSaid :=
  OpenClaim.holds_of_wide 8 Try.f8 rfl rfl rfl rfl rfl rfl rfl ⟨rfl, rfl, rfl, rfl, rfl⟩ rfl rfl rfl rfl rfl (by kernel_rfl) Try.func8 (by kernel_rfl)
    (of_decide_eq_true (by kernel_rfl)) (by unfold Func.isWrapper; first | (rw [if_pos (by decide +kernel)]; kernel_rfl) | (rw [if_neg (by decide +kernel)]; exact ⟨rfl, rfl⟩))
    (fun os started H enc _ => lifted_certificateTurns os started H enc)
end Go.Proofs.Yteblljpbnpaplaa
