/- The reference's order: Above, Least, Fits. Conditions: none. -/
import Derived.Test.YtggaonafmiklaaaGN
namespace Go.Proofs.Ytggaonafmiklaaa
set_option linter.unusedSimpArgs false
set_option linter.unusedVariables false
open Go.RowKit
set_option maxRecDepth 20000

theorem condT (x y : Bool) : (bif x then true else y) = (x || y) := by cases x <;> rfl
theorem condF (x y : Bool) : (bif x then y else false) = (x && y) := by cases x <;> rfl
theorem ev_refAbove (l : List Int) (a b : Int) : Ev Try.prog 19 [intsV l, .sc (.int .i64 a), .sc (.int .i64 b)] (.sc (.bool (aboveB l a b))) := by
  unfold intsV
  refine ev_fn Try.func19 comp19 (show 3 ≤ Try.f19.ntmps by decide) ?_; unfold cf19 rf19; simp only [↓EVP0, EVQ0, EVQ1, EVQ2, EVQ3, EVQ4, EVA, EVK, EVF, ↓reduceIte, Nat.reduceEqDiff, Nat.reduceAdd, Nat.reduceSub, Nat.reduceMul, Nat.reduceLT, Nat.reduceLeDiff, reduceCtorEq, Int.reduceToNat, Int.reduceLT, Int.reduceLE, Int.reduceAdd, Int.reduceSub, Int.reduceMul, Int.reduceNeg, Int.reduceEq, Nat.reduceMod, forall_eq_or_imp, forall_eq, forall_const, cond_true, cond_false, decide_true, decide_false, true_imp_iff, implies_true, Int.cast_ofNat_Int, forall_eq']
  have hA : aboveB l a b = (((decide (0 ≤ a) && (decide (0 ≤ b) && (decide (a < l.length) && decide (b < l.length)))) && (decide (0 ≤ l.getD a.toNat 0) && decide (0 ≤ l.getD b.toNat 0))) && (decide (l.getD a.toNat 0 < l.getD b.toNat 0) || (decide (l.getD a.toNat 0 = l.getD b.toNat 0) && decide (a < b)))) := by
    unfold aboveB hasB
    rw [Bool.eq_iff_iff]
    simp only [Bool.or_eq_true, Bool.and_eq_true, decide_eq_true_eq]
    omega
  rw [hA]
  simp only [condT, condF]
  generalize l.getD a.toNat 0 = x
  generalize l.getD b.toNat 0 = y
  refine ⟨fun hg => ?_, fun hg => ?_, fun hg => ?_, fun hg => ?_⟩
  · simp at hg; omega
  · simp at hg; omega
  · symm
    simp only [Bool.or_eq_true, decide_eq_true_eq] at hg
    rw [Bool.eq_false_iff]
    simp only [ne_eq, Bool.or_eq_true, Bool.and_eq_true, decide_eq_true_eq]
    omega
  · simp at hg
    refine ⟨by omega, by omega, fun _ => by omega, fun _ => by omega, ?_⟩
    rw [Bool.eq_iff_iff]
    simp only [Bool.or_eq_true, Bool.and_eq_true, decide_eq_true_eq]
    omega
theorem ev_refLeast (p : Pl) (hn : p.ns.length ≤ 16) : Ev Try.prog 22 [plV p] (.sc (.int .i64 (bif decide (p.ns.length = 0) then -1 else ((swFrom p.ns p.ns.length 0 : Nat) : Int)))) := by
  unfold plV
  refine ev_fn Try.func22 comp22 (show 1 ≤ Try.f22.ntmps by decide) ?_; unfold cf22 rf22; simp only [↓EVP0, EVQ0, EVQ1, EVQ2, EVQ3, EVQ4, EVA, EVK, EVF, ↓reduceIte, Nat.reduceEqDiff, Nat.reduceAdd, Nat.reduceSub, Nat.reduceMul, Nat.reduceLT, Nat.reduceLeDiff, reduceCtorEq, Int.reduceToNat, Int.reduceLT, Int.reduceLE, Int.reduceAdd, Int.reduceSub, Int.reduceMul, Int.reduceNeg, Int.reduceEq, Nat.reduceMod, forall_eq_or_imp, forall_eq, forall_const, cond_true, cond_false, decide_true, decide_false, true_imp_iff, implies_true, Int.cast_ofNat_Int, forall_eq']
  refine lwp_for (α := Unit) p.ns.length (fun i _ => swFrom p.ns p.ns.length 0 = swFrom p.ns (p.ns.length - i) i) (fun i _ => [(1, .ptr 0 0 0 0 0), (3, .sc (.int .i64 i))])
    (fun i _ => [(0, .box [.rsl 3 p.ns.length (ndsF p.ns), .rsl 6 p.cs.length (cbsF p.cs)])]) () rfl ?_ (fun _ _ => Nat.zero_le _) ?_
  · simp only [↓EVP0, EVQ0, EVQ1, EVQ2, EVQ3, EVQ4, EVA, EVK, EVF, ↓reduceIte, Nat.reduceEqDiff, Nat.reduceAdd, Nat.reduceSub, Nat.reduceMul, Nat.reduceLT, Nat.reduceLeDiff, reduceCtorEq, Int.reduceToNat, Int.reduceLT, Int.reduceLE, Int.reduceAdd, Int.reduceSub, Int.reduceMul, Int.reduceNeg, Int.reduceEq, Nat.reduceMod, forall_eq_or_imp, forall_eq, forall_const, cond_true, cond_false, decide_true, decide_false, true_imp_iff, implies_true, Int.cast_ofNat_Int, forall_eq']
  intro i _ hi hx
  unfold lb22_0
  simp only [↓EVP0, EVQ0, EVQ1, EVQ2, EVQ3, EVQ4, EVA, EVK, EVF, ↓reduceIte, Nat.reduceEqDiff, Nat.reduceAdd, Nat.reduceSub, Nat.reduceMul, Nat.reduceLT, Nat.reduceLeDiff, reduceCtorEq, Int.reduceToNat, Int.reduceLT, Int.reduceLE, Int.reduceAdd, Int.reduceSub, Int.reduceMul, Int.reduceNeg, Int.reduceEq, Nat.reduceMod, forall_eq_or_imp, forall_eq, forall_const, cond_true, cond_false, decide_true, decide_false, true_imp_iff, implies_true, Int.cast_ofNat_Int, forall_eq']
  intro _
  refine ⟨fun hg => ?_, fun hg => ?_⟩
  · have hi2 : i < p.ns.length := by simpa using hg
    have e : p.ns.length - i = (p.ns.length - (i + 1)) + 1 := by omega
    have hn0 : decide (p.ns.length = 0) = false := by simp; intro e; rw [e] at hi2; simp at hi2
    rw [hx, e, hn0, cond_false]
    refine ⟨⟨by omega, by omega⟩, fun h => by simp only [swFrom, h, cond_true], fun h => ⟨by unfold In64; omega, hi2, (), by simp only [swFrom, h, cond_false]⟩⟩
  · have hii : i = p.ns.length := by simp at hg; omega
    have h0 : swFrom p.ns p.ns.length 0 = 0 := by rw [hx, hii, Nat.sub_self]; rfl
    intro _
    rw [h0]
    refine ⟨fun h => ?_, fun h => ?_⟩
    · have : decide (p.ns.length = 0) = false := by simp at h ⊢; intro e; rw [e] at h; simp at h
      rw [this]; rfl
    · have : decide (p.ns.length = 0) = true := by simp at h ⊢; exact h
      rw [this]; rfl
def hitF (l : List Int) (i : Nat) (c : Cb) : Bool := decide (0 ≤ otherE c i) && decide (lvl l (otherE c i) = l.getD i 0 - 1)
def fndF (p : Pl) (l : List Int) (i : Nat) : Nat → Bool
  | 0 => decide (l.getD i 0 < 1)
  | k + 1 => bif hitF l i (p.cs.getD k default) then true else fndF p l i k
def fitsB (p : Pl) (l : List Int) : Bool :=
  decide (l.length = p.ns.length) && ((List.range l.length).all (fun i => rngB l.length (l.getD i 0) && fndF p l i p.cs.length) && decide (l.countP isZ = 1))
theorem ev_fits (p : Pl) (hv : validE p = 0) (l : List Int) : Ev Try.prog 17 [plV p, intsV l] (.sc (.bool (fitsB p l))) := by
  have hV := valid_of hv
  have h27 := ev_other
  have n16 := hV.n16
  have c32 := hV.c32
  unfold plV intsV cbL at *
  refine ev_fn Try.func17 comp17 (show 2 ≤ Try.f17.ntmps by decide) ?_; unfold cf17 rf17; simp only [↓EVP0, EVQ0, EVQ1, EVQ2, EVQ3, EVQ4, EVA, EVK, EVF, ↓reduceIte, Nat.reduceEqDiff, Nat.reduceAdd, Nat.reduceSub, Nat.reduceMul, Nat.reduceLT, Nat.reduceLeDiff, reduceCtorEq, Int.reduceToNat, Int.reduceLT, Int.reduceLE, Int.reduceAdd, Int.reduceSub, Int.reduceMul, Int.reduceNeg, Int.reduceEq, Nat.reduceMod, forall_eq_or_imp, forall_eq, forall_const, cond_true, cond_false, decide_true, decide_false, true_imp_iff, implies_true, Int.cast_ofNat_Int, forall_eq']
  intro _ _
  refine ⟨fun hg => ?_, fun hg => ?_⟩
  · have : decide (l.length = p.ns.length) = false := by revert hg; simp; omega
    unfold fitsB; rw [this]; rfl
  have hlen : l.length = p.ns.length := by revert hg; simp; omega
  refine lwp_for (α := Unit) l.length (fun i _ => (List.range i).all (fun i => rngB l.length (l.getD i 0) && fndF p l i p.cs.length) = true)
    (fun i _ => [(1, .rsl 1 l.length (intsF l)), (2, .ptr 0 0 0 0 0), (5, .sc (.int .i64 ((l.take i).countP isZ))), (6, .sc (.int .i64 i))])
    (fun i _ => [(0, .box [.rsl 3 p.ns.length (ndsF p.ns), .rsl 6 p.cs.length (cbsF p.cs)])]) () rfl ?_ (fun _ _ => Nat.zero_le _) ?_
  · simp only [↓EVP0, EVQ0, EVQ1, EVQ2, EVQ3, EVQ4, EVA, EVK, EVF, ↓reduceIte, Nat.reduceEqDiff, Nat.reduceAdd, Nat.reduceSub, Nat.reduceMul, Nat.reduceLT, Nat.reduceLeDiff, reduceCtorEq, Int.reduceToNat, Int.reduceLT, Int.reduceLE, Int.reduceAdd, Int.reduceSub, Int.reduceMul, Int.reduceNeg, Int.reduceEq, Nat.reduceMod, forall_eq_or_imp, forall_eq, forall_const, cond_true, cond_false, decide_true, decide_false, true_imp_iff, implies_true, Int.cast_ofNat_Int, forall_eq']
    rfl
  intro i _ hi hx
  have hfin : i = l.length → (List.range l.length).all (fun i => rngB l.length (l.getD i 0) && fndF p l i p.cs.length) = true := fun e => by rw [← e]; rw [← e] at hx; exact hx
  have hF : i < l.length → (rngB l.length (l.getD i 0) && fndF p l i p.cs.length) = false → fitsB p l = false := by
    intro hi2 h
    have : (List.range l.length).all (fun i => rngB l.length (l.getD i 0) && fndF p l i p.cs.length) = false := by
      rw [List.all_eq_false]
      exact ⟨i, List.mem_range.2 hi2, by rw [h]; simp⟩
    unfold fitsB; rw [this]; simp
  unfold lb17_1
  simp only [↓EVP0, EVQ0, EVQ1, EVQ2, EVQ3, EVQ4, EVA, EVK, EVF, ↓reduceIte, Nat.reduceEqDiff, Nat.reduceAdd, Nat.reduceSub, Nat.reduceMul, Nat.reduceLT, Nat.reduceLeDiff, reduceCtorEq, Int.reduceToNat, Int.reduceLT, Int.reduceLE, Int.reduceAdd, Int.reduceSub, Int.reduceMul, Int.reduceNeg, Int.reduceEq, Nat.reduceMod, forall_eq_or_imp, forall_eq, forall_const, cond_true, cond_false, decide_true, decide_false, true_imp_iff, implies_true, Int.cast_ofNat_Int, forall_eq']
  intro _
  refine ⟨fun hg => ?_, fun hg => ?_⟩
  · have hi2 : i < l.length := by simpa using hg
    have hcnt : (l.take (i + 1)).countP isZ = (l.take i).countP isZ + (if isZ (l.getD i 0) then 1 else 0) := by
      rw [take_succ_getD 0 l i hi2, List.countP_append, List.countP_singleton]
    have hcle : (l.take i).countP isZ ≤ i := Nat.le_trans List.countP_le_length (by simp; omega)
    have hbi : (0 : Int) ≤ i ∧ (i : Int) < l.length := by omega
    refine ⟨hbi, fun _ => hbi, fun hr => ?_, fun hr => ?_⟩
    · refine (hF hi2 ?_).symm
      have : rngB l.length (l.getD i 0) = false := by unfold rngB; simp at hr ⊢; omega
      rw [this]; rfl
    have hR : rngB l.length (l.getD i 0) = true := by unfold rngB; simp at hr ⊢; omega
    have hR2 := hR
    unfold rngB at hR2
    simp at hR2
    have hz2 : ∀ b, decide (l.getD i 0 = 0) = b → isZ (l.getD i 0) = b := fun b h => h
    refine lwp_join (α := Unit) (fun _ => True) (fun _ => [(1, .rsl 1 l.length (intsF l)), (2, .ptr 0 0 0 0 0), (5, .sc (.int .i64 ((l.take (i + 1)).countP isZ))), (6, .sc (.int .i64 i))])
      (fun _ => [(0, .box [.rsl 3 p.ns.length (ndsF p.ns), .rsl 6 p.cs.length (cbsF p.cs)])]) (fun _ => Nat.zero_le _) ?_ ?_
    · simp only [↓EVP0, EVQ0, EVQ1, EVQ2, EVQ3, EVQ4, EVA, EVK, EVF, ↓reduceIte, Nat.reduceEqDiff, Nat.reduceAdd, Nat.reduceSub, Nat.reduceMul, Nat.reduceLT, Nat.reduceLeDiff, reduceCtorEq, Int.reduceToNat, Int.reduceLT, Int.reduceLE, Int.reduceAdd, Int.reduceSub, Int.reduceMul, Int.reduceNeg, Int.reduceEq, Nat.reduceMod, forall_eq_or_imp, forall_eq, forall_const, cond_true, cond_false, decide_true, decide_false, true_imp_iff, implies_true, Int.cast_ofNat_Int, forall_eq']
      refine ⟨hbi, fun hz => ⟨by unfold In64; omega, (), ?_⟩, fun hz => ⟨(), ?_⟩⟩
      · rw [hcnt, hz2 _ hz, if_pos rfl]; omega
      · rw [hcnt, hz2 _ hz]; simp
    rintro _ _
    simp only [↓EVP0, EVQ0, EVQ1, EVQ2, EVQ3, EVQ4, EVA, EVK, EVF, ↓reduceIte, Nat.reduceEqDiff, Nat.reduceAdd, Nat.reduceSub, Nat.reduceMul, Nat.reduceLT, Nat.reduceLeDiff, reduceCtorEq, Int.reduceToNat, Int.reduceLT, Int.reduceLE, Int.reduceAdd, Int.reduceSub, Int.reduceMul, Int.reduceNeg, Int.reduceEq, Nat.reduceMod, forall_eq_or_imp, forall_eq, forall_const, cond_true, cond_false, decide_true, decide_false, true_imp_iff, implies_true, Int.cast_ofNat_Int, forall_eq']
    refine ⟨hbi, ?_⟩
    refine lwp_for (α := Unit) p.cs.length (fun j _ => True) (fun j _ => [(1, .rsl 1 l.length (intsF l)), (2, .ptr 0 0 0 0 0), (5, .sc (.int .i64 ((l.take (i + 1)).countP isZ))), (6, .sc (.int .i64 i)), (7, .sc (.bool (fndF p l i j))), (8, .sc (.int .i64 j))])
      (fun j _ => [(0, .box [.rsl 3 p.ns.length (ndsF p.ns), .rsl 6 p.cs.length (cbsF p.cs)])]) () trivial ?_ (fun _ _ => Nat.zero_le _) ?_
    · simp only [↓EVP0, EVQ0, EVQ1, EVQ2, EVQ3, EVQ4, EVA, EVK, EVF, ↓reduceIte, Nat.reduceEqDiff, Nat.reduceAdd, Nat.reduceSub, Nat.reduceMul, Nat.reduceLT, Nat.reduceLeDiff, reduceCtorEq, Int.reduceToNat, Int.reduceLT, Int.reduceLE, Int.reduceAdd, Int.reduceSub, Int.reduceMul, Int.reduceNeg, Int.reduceEq, Nat.reduceMod, forall_eq_or_imp, forall_eq, forall_const, cond_true, cond_false, decide_true, decide_false, true_imp_iff, implies_true, Int.cast_ofNat_Int, forall_eq']
      simp [fndF]
    intro j _ hj _
    have hnx : fndF p l i (j + 1) = bif hitF l i (p.cs.getD j default) then true else fndF p l i j := rfl
    have hfj : j = p.cs.length → fndF p l i j = fndF p l i p.cs.length := fun e => by rw [e]
    rw [hnx]
    generalize fndF p l i j = fj at hfj ⊢
    unfold lb17_0
    simp only [↓EVP0, EVQ0, EVQ1, EVQ2, EVQ3, EVQ4, EVA, EVK, EVF, ↓reduceIte, Nat.reduceEqDiff, Nat.reduceAdd, Nat.reduceSub, Nat.reduceMul, Nat.reduceLT, Nat.reduceLeDiff, reduceCtorEq, Int.reduceToNat, Int.reduceLT, Int.reduceLE, Int.reduceAdd, Int.reduceSub, Int.reduceMul, Int.reduceNeg, Int.reduceEq, Nat.reduceMod, forall_eq_or_imp, forall_eq, forall_const, cond_true, cond_false, decide_true, decide_false, true_imp_iff, implies_true, Int.cast_ofNat_Int, forall_eq']
    intro _
    refine ⟨fun hg => ?_, fun hg => ?_⟩
    · have hj2 : j < p.cs.length := by simpa using hg
      have hcm : (p.cs.getD j default) ∈ p.cs := by rw [List.getD_eq_getElem?_getD, List.getElem?_eq_getElem hj2]; exact List.getElem_mem hj2
      obtain ⟨hca, hcb⟩ := hV.cab _ hcm
      refine ⟨⟨by omega, by omega⟩, callK_ro (h27 _ _) ?_ ?_⟩
      · simp only [↓EVP0, EVQ0, EVQ1, EVQ2, EVQ3, EVQ4, EVA, EVK, EVF, ↓reduceIte, Nat.reduceEqDiff, Nat.reduceAdd, Nat.reduceSub, Nat.reduceMul, Nat.reduceLT, Nat.reduceLeDiff, reduceCtorEq, Int.reduceToNat, Int.reduceLT, Int.reduceLE, Int.reduceAdd, Int.reduceSub, Int.reduceMul, Int.reduceNeg, Int.reduceEq, Nat.reduceMod, forall_eq_or_imp, forall_eq, forall_const, cond_true, cond_false, decide_true, decide_false, true_imp_iff, implies_true, Int.cast_ofNat_Int, forall_eq']
      simp only [↓EVP0, EVQ0, EVQ1, EVQ2, EVQ3, EVQ4, EVA, EVK, EVF, ↓reduceIte, Nat.reduceEqDiff, Nat.reduceAdd, Nat.reduceSub, Nat.reduceMul, Nat.reduceLT, Nat.reduceLeDiff, reduceCtorEq, Int.reduceToNat, Int.reduceLT, Int.reduceLE, Int.reduceAdd, Int.reduceSub, Int.reduceMul, Int.reduceNeg, Int.reduceEq, Nat.reduceMod, forall_eq_or_imp, forall_eq, forall_const, cond_true, cond_false, decide_true, decide_false, true_imp_iff, implies_true, Int.cast_ofNat_Int, forall_eq']
      generalize p.cs.getD j default = c at hca hcb ⊢
      have hoth : otherE c i = -1 ∨ inN p.ns.length (otherE c i) := by
        unfold otherE
        cases decide (c.a = ↑i)
        · cases decide (c.b = ↑i)
          · exact .inl rfl
          · exact .inr hca
        · exact .inr hcb
      unfold inN at hoth
      have hj64 : In64 ((j : Int) + 1) := by unfold In64; omega
      have hH : (bif decide (0 ≤ otherE c ↑i) then decide (l.getD (otherE c ↑i).toNat 0 = l.getD i 0 - 1) else false) = hitF l i c := by
        unfold hitF lvl; rw [condF]
      rw [hH]
      refine ⟨fun h => by simp at h; omega, fun _ => hbi, fun _ => by have := hr; simp at this; unfold In64; rw [List.getD_eq_getElem?_getD]; omega, fun h => ⟨hj64, hj2, (), by rw [h]; rfl⟩, fun h => ⟨hj64, hj2, (), by rw [h]; rfl⟩⟩
    · have hjj : j = p.cs.length := by simp at hg; omega
      have hF2 := hfj hjj
      refine ⟨fun h => ?_, fun h => ⟨by unfold In64; omega, hi2, (), ?_⟩⟩
      · refine (hF hi2 ?_).symm
        rw [← hF2, show fj = false by simpa using h, Bool.and_false]
      · rw [List.all_append, hx]
        simp only [List.all_cons, List.all_nil, Bool.and_true, Bool.true_and]
        rw [hR, ← hF2, show fj = true by simpa using h]; rfl
  · have hii : i = l.length := by simp at hg; omega
    have h1 := hfin hii
    unfold fitsB
    rw [h1, decide_eq_true hlen, hii, List.take_length]
    simp only [Bool.true_and]
    rw [Bool.eq_iff_iff]
    simp only [decide_eq_true_eq]
    omega
end Go.Proofs.Ytggaonafmiklaaa
