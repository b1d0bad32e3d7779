/- The reference's levels: the program's own steps. Conditions: none. -/
import Derived.Test.YtggaonafmiklaaaGM
namespace Go.Proofs.Ytggaonafmiklaaa
set_option linter.unusedSimpArgs false
set_option linter.unusedVariables false
open Go.RowKit

def rlxS (m : List Int) (c : Cb) : Nat → List Int
  | 0 => m
  | 1 => rlx m c.a c.b
  | _ => rlx (rlx m c.a c.b) c.b c.a
theorem rlxS_step (m : List Int) (c : Cb) (k : Nat) (hk : k < 2) : rlxS m c (k + 1) = rlx (rlxS m c k) (bif decide ((k : Int) = 1) then c.b else c.a) (bif decide ((k : Int) = 1) then c.a else c.b) := by
  obtain rfl | rfl : k = 0 ∨ k = 1 := by omega
  · rfl
  · rfl
set_option maxRecDepth 20000 in
theorem ev_levels (p : Pl) (up : List Bool) (r : Int) (hn : p.ns.length ≤ 16) (hcs : p.cs.length ≤ 32) (hC : ∀ c, c ∈ p.cs → inN p.ns.length c.a ∧ inN p.ns.length c.b) (hr : inN p.ns.length r) (hup : up.length = p.cs.length) :
    Ev Try.prog 14 [plV p, boolsV up, .sc (.int .i64 r)] (intsV (distL p.ns.length (upU p.cs up) r)) := by
  unfold plV boolsV intsV
  refine ev_fn Try.func14 comp14 (show 3 ≤ Try.f14.ntmps by decide) ?_; unfold cf14 rf14; simp only [↓EVP0, EVQ0, EVQ1, EVQ2, EVQ3, EVQ4, EVA, EVK, EVF, ↓reduceIte, Nat.reduceEqDiff, Nat.reduceAdd, Nat.reduceSub, Nat.reduceMul, Nat.reduceLT, Nat.reduceLeDiff, reduceCtorEq, Int.reduceToNat, Int.reduceLT, Int.reduceLE, Int.reduceAdd, Int.reduceSub, Int.reduceMul, Int.reduceNeg, Int.reduceEq, Nat.reduceMod, forall_eq_or_imp, forall_eq, forall_const, cond_true, cond_false, decide_true, decide_false, true_imp_iff, implies_true, Int.cast_ofNat_Int, forall_eq']
  intro _
  refine ⟨by unfold mksC; omega, ?_⟩
  refine lwp_for (α := Unit) p.ns.length (fun i _ => True) (fun i _ => [(1, .rsl 1 up.length (boolsF up)), (2, .sc (.int .i64 r)), (3, .ptr 0 0 0 0 0), (7, .sl 1 0 1 0 p.ns.length), (8, .sc (.int .i64 i))])
    (fun i _ => [(0, .box [.rsl 3 p.ns.length (ndsF p.ns), .rsl 6 p.cs.length (cbsF p.cs)]), (0, .ints (fillM p.ns.length i))]) () trivial ?_ (fun _ _ => Nat.zero_le _) ?_
  · simp only [↓EVP0, EVQ0, EVQ1, EVQ2, EVQ3, EVQ4, EVA, EVK, EVF, ↓reduceIte, Nat.reduceEqDiff, Nat.reduceAdd, Nat.reduceSub, Nat.reduceMul, Nat.reduceLT, Nat.reduceLeDiff, reduceCtorEq, Int.reduceToNat, Int.reduceLT, Int.reduceLE, Int.reduceAdd, Int.reduceSub, Int.reduceMul, Int.reduceNeg, Int.reduceEq, Nat.reduceMod, forall_eq_or_imp, forall_eq, forall_const, cond_true, cond_false, decide_true, decide_false, true_imp_iff, implies_true, Int.cast_ofNat_Int, forall_eq']
    simp [fillM]
  intro i _ hi _
  unfold lb14_3
  simp only [↓EVP0, EVQ0, EVQ1, EVQ2, EVQ3, EVQ4, EVA, EVK, EVF, ↓reduceIte, Nat.reduceEqDiff, Nat.reduceAdd, Nat.reduceSub, Nat.reduceMul, Nat.reduceLT, Nat.reduceLeDiff, reduceCtorEq, Int.reduceToNat, Int.reduceLT, Int.reduceLE, Int.reduceAdd, Int.reduceSub, Int.reduceMul, Int.reduceNeg, Int.reduceEq, Nat.reduceMod, forall_eq_or_imp, forall_eq, forall_const, cond_true, cond_false, decide_true, decide_false, true_imp_iff, implies_true, Int.cast_ofNat_Int, forall_eq']
  intro _
  refine ⟨fun hg => ?_, fun hg => ?_⟩
  · have hi2 : i < p.ns.length := by simpa using hg
    refine ⟨⟨by omega, by omega⟩, by rw [fillM_len hi]; omega, by unfold In64; omega, hi2, (), fillM_set hi2⟩
  have hii : i = p.ns.length := by simp at hg; omega
  subst hii
  have hr' := hr
  unfold inN at hr'
  rw [fillM_end]
  refine ⟨⟨by omega, by omega⟩, by simp; omega, ?_⟩
  refine lwp_for (α := Unit) p.ns.length (fun i _ => True) (fun i _ => [(1, .rsl 1 up.length (boolsF up)), (3, .ptr 0 0 0 0 0), (7, .sl 1 0 1 0 p.ns.length), (9, .sc (.int .i64 i))])
    (fun i _ => [(0, .box [.rsl 3 p.ns.length (ndsF p.ns), .rsl 6 p.cs.length (cbsF p.cs)]), (0, .ints (rlxN p.cs up (lvl0 p.ns.length r) i))]) () trivial ?_ (fun _ _ => Nat.zero_le _) ?_
  · simp only [↓EVP0, EVQ0, EVQ1, EVQ2, EVQ3, EVQ4, EVA, EVK, EVF, ↓reduceIte, Nat.reduceEqDiff, Nat.reduceAdd, Nat.reduceSub, Nat.reduceMul, Nat.reduceLT, Nat.reduceLeDiff, reduceCtorEq, Int.reduceToNat, Int.reduceLT, Int.reduceLE, Int.reduceAdd, Int.reduceSub, Int.reduceMul, Int.reduceNeg, Int.reduceEq, Nat.reduceMod, forall_eq_or_imp, forall_eq, forall_const, cond_true, cond_false, decide_true, decide_false, true_imp_iff, implies_true, Int.cast_ofNat_Int, forall_eq']
    rfl
  intro i _ hi _
  have hN := (rlxN_ok (up := up) hr hC i).1
  have hfin : i = p.ns.length → rlxN p.cs up (lvl0 p.ns.length r) i = distL p.ns.length (upU p.cs up) r := fun e => by rw [e]; exact rlxN_dist hr hC
  have hnx : rlxN p.cs up (lvl0 p.ns.length r) (i + 1) = rlxP p.cs up (rlxN p.cs up (lvl0 p.ns.length r) i) p.cs.length := rfl
  rw [hnx]
  generalize rlxN p.cs up (lvl0 p.ns.length r) i = M at hN hfin ⊢
  unfold lb14_2
  simp only [↓EVP0, EVQ0, EVQ1, EVQ2, EVQ3, EVQ4, EVA, EVK, EVF, ↓reduceIte, Nat.reduceEqDiff, Nat.reduceAdd, Nat.reduceSub, Nat.reduceMul, Nat.reduceLT, Nat.reduceLeDiff, reduceCtorEq, Int.reduceToNat, Int.reduceLT, Int.reduceLE, Int.reduceAdd, Int.reduceSub, Int.reduceMul, Int.reduceNeg, Int.reduceEq, Nat.reduceMod, forall_eq_or_imp, forall_eq, forall_const, cond_true, cond_false, decide_true, decide_false, true_imp_iff, implies_true, Int.cast_ofNat_Int, forall_eq']
  intro _
  refine ⟨fun hg => ?_, fun hg => ?_⟩
  · have hi2 : i < p.ns.length := by simpa using hg
    refine lwp_for (α := Unit) p.cs.length (fun j _ => True) (fun j _ => [(1, .rsl 1 up.length (boolsF up)), (3, .ptr 0 0 0 0 0), (7, .sl 1 0 1 0 p.ns.length), (9, .sc (.int .i64 i)), (10, .sc (.int .i64 j))])
      (fun j _ => [(0, .box [.rsl 3 p.ns.length (ndsF p.ns), .rsl 6 p.cs.length (cbsF p.cs)]), (0, .ints (rlxP p.cs up M j))]) () trivial ?_ (fun _ _ => Nat.zero_le _) ?_
    · simp only [↓EVP0, EVQ0, EVQ1, EVQ2, EVQ3, EVQ4, EVA, EVK, EVF, ↓reduceIte, Nat.reduceEqDiff, Nat.reduceAdd, Nat.reduceSub, Nat.reduceMul, Nat.reduceLT, Nat.reduceLeDiff, reduceCtorEq, Int.reduceToNat, Int.reduceLT, Int.reduceLE, Int.reduceAdd, Int.reduceSub, Int.reduceMul, Int.reduceNeg, Int.reduceEq, Nat.reduceMod, forall_eq_or_imp, forall_eq, forall_const, cond_true, cond_false, decide_true, decide_false, true_imp_iff, implies_true, Int.cast_ofNat_Int, forall_eq']
      rfl
    intro j _ hj _
    have hP := (rlxP_ok hN hC j hj).1
    have hnx : rlxP p.cs up M (j + 1) = rlxC (rlxP p.cs up M j) (p.cs.getD j default) (up.getD j false) := rfl
    have hfj : j = p.cs.length → rlxP p.cs up M j = rlxP p.cs up M p.cs.length := fun e => by rw [e]
    rw [hnx]
    generalize rlxP p.cs up M j = M1 at hP hfj ⊢
    unfold lb14_1
    simp only [↓EVP0, EVQ0, EVQ1, EVQ2, EVQ3, EVQ4, EVA, EVK, EVF, ↓reduceIte, Nat.reduceEqDiff, Nat.reduceAdd, Nat.reduceSub, Nat.reduceMul, Nat.reduceLT, Nat.reduceLeDiff, reduceCtorEq, Int.reduceToNat, Int.reduceLT, Int.reduceLE, Int.reduceAdd, Int.reduceSub, Int.reduceMul, Int.reduceNeg, Int.reduceEq, Nat.reduceMod, forall_eq_or_imp, forall_eq, forall_const, cond_true, cond_false, decide_true, decide_false, true_imp_iff, implies_true, Int.cast_ofNat_Int, forall_eq']
    intro _
    refine ⟨fun hg => ?_, fun hg => ?_⟩
    · have hj2 : j < p.cs.length := by simpa using hg
      have hcm : (p.cs.getD j default) ∈ p.cs := by rw [List.getD_eq_getElem?_getD, List.getElem?_eq_getElem hj2]; exact List.getElem_mem hj2
      obtain ⟨hca, hcb⟩ := hC _ hcm
      have hU : up.getD j false = true → p.cs.getD j default ∈ upU p.cs up := fun hu => upP_mem.2 ⟨j, by omega, hu, rfl⟩
      refine ⟨⟨by omega, by omega⟩, fun h => ⟨by unfold In64; omega, hj2, (), ?_⟩, fun h => ?_⟩
      · have : up.getD j false = false := by simpa using h
        rw [this]; rfl
      have hup : up.getD j false = true := by simpa using h
      have hcU := hU hup
      rw [hup]
      generalize hcc : p.cs.getD j default = c at hca hcb hcU ⊢
      refine lwp_for (α := Unit) 2 (fun k _ => True) (fun k _ => [(1, .rsl 1 up.length (boolsF up)), (3, .ptr 0 0 0 0 0), (7, .sl 1 0 1 0 p.ns.length), (9, .sc (.int .i64 i)), (10, .sc (.int .i64 j)), (11, .sc (.int .i64 k))])
        (fun k _ => [(0, .box [.rsl 3 p.ns.length (ndsF p.ns), .rsl 6 p.cs.length (cbsF p.cs)]), (0, .ints (rlxS M1 c k))]) () trivial ?_ (fun _ _ => Nat.zero_le _) ?_
      · simp only [↓EVP0, EVQ0, EVQ1, EVQ2, EVQ3, EVQ4, EVA, EVK, EVF, ↓reduceIte, Nat.reduceEqDiff, Nat.reduceAdd, Nat.reduceSub, Nat.reduceMul, Nat.reduceLT, Nat.reduceLeDiff, reduceCtorEq, Int.reduceToNat, Int.reduceLT, Int.reduceLE, Int.reduceAdd, Int.reduceSub, Int.reduceMul, Int.reduceNeg, Int.reduceEq, Nat.reduceMod, forall_eq_or_imp, forall_eq, forall_const, cond_true, cond_false, decide_true, decide_false, true_imp_iff, implies_true, Int.cast_ofNat_Int, forall_eq']
        rfl
      intro k _ hk _
      have hB : k < 2 → RInv p.ns.length (upU p.cs up) r (i * (2 * p.cs.length) + 2 * j + 1) (rlxS M1 c k) := by
        intro h
        obtain rfl | rfl : k = 0 ∨ k = 1 := by omega
        · refine ⟨hP.len, fun x hx => ?_⟩
          rcases hP.snd x hx with h1 | ⟨h1, h2, h3⟩
          · exact .inl h1
          · exact .inr ⟨h1, by simp only [rlxS]; omega, h3⟩
        · exact (rlx_ok hP hca hcb ⟨c, hcU, .inl ⟨rfl, rfl⟩⟩).1
      have hk3 : k = 2 → rlxS M1 c k = rlxC M1 c true := fun e => by subst e; rfl
      have hstep := fun h => rlxS_step M1 c k h
      generalize rlxS M1 c k = M2 at hB hstep hk3 ⊢
      unfold lb14_0
      simp only [↓EVP0, EVQ0, EVQ1, EVQ2, EVQ3, EVQ4, EVA, EVK, EVF, ↓reduceIte, Nat.reduceEqDiff, Nat.reduceAdd, Nat.reduceSub, Nat.reduceMul, Nat.reduceLT, Nat.reduceLeDiff, reduceCtorEq, Int.reduceToNat, Int.reduceLT, Int.reduceLE, Int.reduceAdd, Int.reduceSub, Int.reduceMul, Int.reduceNeg, Int.reduceEq, Nat.reduceMod, forall_eq_or_imp, forall_eq, forall_const, cond_true, cond_false, decide_true, decide_false, true_imp_iff, implies_true, Int.cast_ofNat_Int, forall_eq']
      simp only [hcc]
      refine ⟨fun hg => ?_, fun hg => ?_⟩
      · have hk2 : k < 2 := by simp at hg; omega
        have hs := hstep hk2
        have hB' := hB hk2
        have hml := hB'.len
        have arm : ∀ (a b : Int), inN p.ns.length a → inN p.ns.length b → rlxS M1 c (k + 1) = rlx M2 a b →
            ((0 ≤ a ∧ a < ↑p.ns.length) ∧ a.toNat < M2.length ∧ (decide (0 ≤ M2.getD a.toNat 0) = true → 0 ≤ b ∧ b < ↑p.ns.length) ∧ (decide (0 ≤ M2.getD a.toNat 0) = true → b.toNat < M2.length) ∧
              ((decide (0 ≤ M2.getD a.toNat 0) && !decide (M2.getD b.toNat 0 < 0)) = true → 0 ≤ b ∧ b < ↑p.ns.length) ∧ ((decide (0 ≤ M2.getD a.toNat 0) && !decide (M2.getD b.toNat 0 < 0)) = true → b.toNat < M2.length) ∧
              ((decide (0 ≤ M2.getD a.toNat 0) && !decide (M2.getD b.toNat 0 < 0)) = true → 0 ≤ a ∧ a < ↑p.ns.length) ∧ ((decide (0 ≤ M2.getD a.toNat 0) && !decide (M2.getD b.toNat 0 < 0)) = true → a.toNat < M2.length) ∧
              ((decide (0 ≤ M2.getD a.toNat 0) && !decide (M2.getD b.toNat 0 < 0)) = true → In64 (M2.getD a.toNat 0 + 1)) ∧
              Br (bif decide (0 ≤ M2.getD a.toNat 0) then bif decide (M2.getD b.toNat 0 < 0) then true else decide (M2.getD a.toNat 0 + 1 < M2.getD b.toNat 0) else false)
                ((0 ≤ a ∧ a < ↑p.ns.length) ∧ a.toNat < M2.length ∧ In64 (M2.getD a.toNat 0 + 1) ∧ (0 ≤ b ∧ b < ↑p.ns.length) ∧ b.toNat < M2.length ∧ In64 ((k : Int) + 1) ∧ k < 2 ∧ ∃ _ : Unit, M2.set b.toNat (M2.getD a.toNat 0 + 1) = rlxS M1 c (k + 1))
                (In64 ((k : Int) + 1) ∧ k < 2 ∧ ∃ _ : Unit, M2 = rlxS M1 c (k + 1))) := by
          intro a b ha hb hs
          have hlv : In64 (lvl M2 a + 1) := by
            have hle : i * (2 * p.cs.length) ≤ 16 * 64 := Nat.mul_le_mul (by omega) (by omega)
            rcases hB'.snd a ha with h1 | ⟨h1, h2, _⟩ <;> unfold In64 <;> omega
          have hk64 : In64 ((k : Int) + 1) := by unfold In64; omega
          unfold inN at ha hb
          have h1 : a.toNat < M2.length := by omega
          have h2 : b.toNat < M2.length := by omega
          refine ⟨ha, h1, fun _ => hb, fun _ => h2, fun _ => hb, fun _ => h2, fun _ => ha, fun _ => h1, fun _ => hlv, fun hg => ⟨ha, h1, hlv, hb, h2, hk64, hk2, (), ?_⟩, fun hg => ⟨hk64, hk2, (), ?_⟩⟩
          · rw [hs]
            unfold rlx
            rw [show (decide (0 ≤ lvl M2 a) && (decide (lvl M2 b < 0) || decide (lvl M2 a + 1 < lvl M2 b))) = true by
              revert hg; show (bif decide (0 ≤ lvl M2 a) then bif decide (lvl M2 b < 0) then true else decide (lvl M2 a + 1 < lvl M2 b) else false) = true → _
              cases decide (0 ≤ lvl M2 a) <;> cases decide (lvl M2 b < 0) <;> simp]
            rfl
          · rw [hs]
            unfold rlx
            rw [show (decide (0 ≤ lvl M2 a) && (decide (lvl M2 b < 0) || decide (lvl M2 a + 1 < lvl M2 b))) = false by
              revert hg; show (bif decide (0 ≤ lvl M2 a) then bif decide (lvl M2 b < 0) then true else decide (lvl M2 a + 1 < lvl M2 b) else false) = false → _
              cases decide (0 ≤ lvl M2 a) <;> cases decide (lvl M2 b < 0) <;> simp]
            rfl
        refine ⟨⟨by omega, by omega⟩, ⟨by omega, by omega⟩, fun gk => ?_, fun gk => ?_⟩
        · rw [gk] at hs; exact arm c.b c.a hcb hca hs
        · rw [gk] at hs; exact arm c.a c.b hca hcb hs
      · have hk2 : k = 2 := by simp at hg; omega
        exact ⟨by unfold In64; omega, hj2, (), hk3 hk2⟩
    · have hj2 : j = p.cs.length := by simp at hg; omega
      exact ⟨by unfold In64; omega, hi2, (), hfj hj2⟩
  · have hii : i = p.ns.length := by simp at hg; omega
    have hM := hfin hii
    refine ⟨by rw [distL_length], by rw [hN.len]; exact Nat.le_refl _, fun x hx => by rw [hM]⟩
end Go.Proofs.Ytggaonafmiklaaa
