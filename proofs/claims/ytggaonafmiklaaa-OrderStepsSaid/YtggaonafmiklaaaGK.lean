/- Chapter 17's Valid. Conditions: none. -/
import Derived.Test.YtggaonafmiklaaaGJ
namespace Go.Proofs.Ytggaonafmiklaaa
set_option linter.unusedSimpArgs false
set_option linter.unusedVariables false
open Go.RowKit

def lvl (l : List Int) (x : Int) : Int := l.getD x.toNat 0
def ledS (l : List Int) (c : Cb) (m : List Bool) : List Bool :=
  bif decide (lvl l c.a = lvl l c.b - 1) then m.set c.b.toNat true else bif decide (lvl l c.b = lvl l c.a - 1) then m.set c.a.toNat true else m
def ledF (p : Pl) (l : List Int) : Nat → List Bool
  | 0 => List.replicate p.ns.length false
  | i + 1 => ledS l (p.cs.getD i default) (ledF p l i)
def rngB (n : Nat) (x : Int) : Bool := decide (-1 ≤ x) && decide (x < n)
def isZ (x : Int) : Bool := decide (x = 0)
def ledOk (p : Pl) (l : List Int) (i : Nat) : Bool := !(decide (0 < l.getD i 0) && !(ledF p l p.cs.length).getD i false)
def ordB (p : Pl) (l : List Int) : Bool :=
  (decide (validE p = 0) && decide (l.length = p.ns.length)) && (l.all (rngB p.ns.length) && (decide (l.countP isZ = 1) && (List.range l.length).all (ledOk p l)))
theorem ledF_len (p : Pl) (l : List Int) (i : Nat) : (ledF p l i).length = p.ns.length := by
  induction i with
  | zero => simp [ledF]
  | succ i ih =>
    simp only [ledF, ledS]
    cases decide (lvl l (p.cs.getD i default).a = lvl l (p.cs.getD i default).b - 1) <;> cases decide (lvl l (p.cs.getD i default).b = lvl l (p.cs.getD i default).a - 1) <;> simp [ih]
theorem ev_ordValid (p : Pl) (hp : PlOk p) (l : List Int) : Ev Try.prog 15 [plV p, .agg [intsV l]] (.sc (.bool (ordB p l))) := by
  have h25 := ev_valid p hp
  unfold plV intsV at *
  refine ev_fn Try.func15 comp15 (show 2 ≤ Try.f15.ntmps by decide) ?_; unfold cf15 rf15; simp only [↓EVP0, EVQ0, EVQ1, EVQ2, EVQ3, EVQ4, EVA, EVK, EVF, ↓reduceIte, Nat.reduceEqDiff, Nat.reduceAdd, Nat.reduceSub, Nat.reduceMul, Nat.reduceLT, Nat.reduceLeDiff, reduceCtorEq, Int.reduceToNat, Int.reduceLT, Int.reduceLE, Int.reduceAdd, Int.reduceSub, Int.reduceMul, Int.reduceNeg, Int.reduceEq, Nat.reduceMod, forall_eq_or_imp, forall_eq, forall_const, cond_true, cond_false, decide_true, decide_false, true_imp_iff, implies_true, Int.cast_ofNat_Int, forall_eq']
  refine callK_ro h25 ?_ ?_
  · simp only [↓EVP0, EVQ0, EVQ1, EVQ2, EVQ3, EVQ4, EVA, EVK, EVF, ↓reduceIte, Nat.reduceEqDiff, Nat.reduceAdd, Nat.reduceSub, Nat.reduceMul, Nat.reduceLT, Nat.reduceLeDiff, reduceCtorEq, Int.reduceToNat, Int.reduceLT, Int.reduceLE, Int.reduceAdd, Int.reduceSub, Int.reduceMul, Int.reduceNeg, Int.reduceEq, Nat.reduceMod, forall_eq_or_imp, forall_eq, forall_const, cond_true, cond_false, decide_true, decide_false, true_imp_iff, implies_true, Int.cast_ofNat_Int, forall_eq']
  simp only [↓EVP0, EVQ0, EVQ1, EVQ2, EVQ3, EVQ4, EVA, EVK, EVF, ↓reduceIte, Nat.reduceEqDiff, Nat.reduceAdd, Nat.reduceSub, Nat.reduceMul, Nat.reduceLT, Nat.reduceLeDiff, reduceCtorEq, Int.reduceToNat, Int.reduceLT, Int.reduceLE, Int.reduceAdd, Int.reduceSub, Int.reduceMul, Int.reduceNeg, Int.reduceEq, Nat.reduceMod, forall_eq_or_imp, forall_eq, forall_const, cond_true, cond_false, decide_true, decide_false, true_imp_iff, implies_true, Int.cast_ofNat_Int, forall_eq']
  have hu : ∀ (g : Bool), (decide (validE p = 0) && decide (l.length = p.ns.length)) = false → false = ordB p l := fun _ h => by unfold ordB; rw [h]; rfl
  refine ⟨fun hg => hu true ?_, fun hg => ?_⟩
  · revert hg; by_cases h1 : validE p = 0 <;> simp [h1]; omega
  have hok : validE p = 0 ∧ l.length = p.ns.length := by
    revert hg; by_cases h1 : validE p = 0 <;> simp [h1]; omega
  obtain ⟨hv, hlen⟩ := hok
  have hV := valid_of hv
  intro _
  refine lwp_for (α := Unit) l.length (fun i _ => (l.take i).all (rngB p.ns.length) = true) (fun i _ => [(2, .ptr 0 0 0 0 0), (3, .ptr 1 0 0 0 0), (26, .rsl 1 l.length (intsF l)), (27, .sc (.int .i64 l.length)), (28, .sc (.int .i64 i)), (5, .sc (.int .i64 ((l.take i).countP isZ)))])
    (fun i _ => [(0, .box [.rsl 3 p.ns.length (ndsF p.ns), .rsl 6 p.cs.length (cbsF p.cs)]), (0, .box [.rsl 1 l.length (intsF l)])]) () rfl ?_ (fun _ _ => Nat.zero_le _) ?_
  · simp only [↓EVP0, EVQ0, EVQ1, EVQ2, EVQ3, EVQ4, EVA, EVK, EVF, ↓reduceIte, Nat.reduceEqDiff, Nat.reduceAdd, Nat.reduceSub, Nat.reduceMul, Nat.reduceLT, Nat.reduceLeDiff, reduceCtorEq, Int.reduceToNat, Int.reduceLT, Int.reduceLE, Int.reduceAdd, Int.reduceSub, Int.reduceMul, Int.reduceNeg, Int.reduceEq, Nat.reduceMod, forall_eq_or_imp, forall_eq, forall_const, cond_true, cond_false, decide_true, decide_false, true_imp_iff, implies_true, Int.cast_ofNat_Int, forall_eq']
    rfl
  intro i _ hi hx
  unfold lb15_2
  simp only [↓EVP0, EVQ0, EVQ1, EVQ2, EVQ3, EVQ4, EVA, EVK, EVF, ↓reduceIte, Nat.reduceEqDiff, Nat.reduceAdd, Nat.reduceSub, Nat.reduceMul, Nat.reduceLT, Nat.reduceLeDiff, reduceCtorEq, Int.reduceToNat, Int.reduceLT, Int.reduceLE, Int.reduceAdd, Int.reduceSub, Int.reduceMul, Int.reduceNeg, Int.reduceEq, Nat.reduceMod, forall_eq_or_imp, forall_eq, forall_const, cond_true, cond_false, decide_true, decide_false, true_imp_iff, implies_true, Int.cast_ofNat_Int, forall_eq']
  refine ⟨fun hg => ?_, fun hg => ?_⟩
  · have hi2 : i < l.length := by simpa using hg
    have hcnt : (l.take (i + 1)).countP isZ = (l.take i).countP isZ + (if isZ (l.getD i 0) then 1 else 0) := by
      rw [take_succ_getD 0 l i hi2, List.countP_append, List.countP_singleton]
    have hcle : (l.take i).countP isZ ≤ i := Nat.le_trans List.countP_le_length (by simp; omega)
    refine ⟨⟨by omega, by omega⟩, fun hg => ?_, fun hg => ?_⟩
    · have : rngB p.ns.length (l.getD i 0) = false := by
        unfold rngB; revert hg; cases h1 : decide (l.getD i 0 < -1) <;> simp at h1 ⊢ <;> omega
      have := all_fail (q := rngB p.ns.length) 0 hi2 this
      simp [ordB, this]
    · have hr : rngB p.ns.length (l.getD i 0) = true := by
        unfold rngB; revert hg; cases h1 : decide (l.getD i 0 < -1) <;> simp at h1 ⊢ <;> omega
      have hs := all_step (q := rngB p.ns.length) 0 hi2 hx hr
      refine ⟨fun hz => ?_, fun hz => ?_⟩
      · have hz' : isZ (l.getD i 0) = true := hz
        rw [hcnt, hz']
        refine ⟨by unfold In64; omega, by unfold In64; omega, hi2, (), hs, ?_⟩
        simp
      · have hz' : isZ (l.getD i 0) = false := hz
        rw [hcnt, hz']
        refine ⟨by unfold In64; omega, hi2, (), hs, ?_⟩
        simp
  have hii : i = l.length := by simp at hg; omega
  subst hii
  have hR := all_len hx
  rw [List.take_length]
  refine ⟨fun hg => ?_, fun hg _ => ?_⟩
  · have : decide (l.countP isZ = 1) = false := by simp at hg ⊢; omega
    unfold ordB; rw [this]; simp
  have hC : decide (l.countP isZ = 1) = true := by simp at hg ⊢; omega
  refine ⟨by have := hV.n16; unfold mksC; omega, fun _ => ?_⟩
  refine lwp_for (α := Unit) p.cs.length (fun i _ => True) (fun i _ => [(2, .ptr 0 0 0 0 0), (3, .ptr 1 0 0 0 0), (8, .sl 2 0 1 0 p.ns.length), (53, .rsl 6 p.cs.length (cbsF p.cs)), (54, .sc (.int .i64 p.cs.length)), (55, .sc (.int .i64 i))])
    (fun i _ => [(0, .box [.rsl 3 p.ns.length (ndsF p.ns), .rsl 6 p.cs.length (cbsF p.cs)]), (0, .box [.rsl 1 l.length (intsF l)]), (0, .bools (ledF p l i))]) () trivial ?_ (fun _ _ => Nat.zero_le _) ?_
  · simp only [ledF]
    simp only [↓EVP0, EVQ0, EVQ1, EVQ2, EVQ3, EVQ4, EVA, EVK, EVF, ↓reduceIte, Nat.reduceEqDiff, Nat.reduceAdd, Nat.reduceSub, Nat.reduceMul, Nat.reduceLT, Nat.reduceLeDiff, reduceCtorEq, Int.reduceToNat, Int.reduceLT, Int.reduceLE, Int.reduceAdd, Int.reduceSub, Int.reduceMul, Int.reduceNeg, Int.reduceEq, Nat.reduceMod, forall_eq_or_imp, forall_eq, forall_const, cond_true, cond_false, decide_true, decide_false, true_imp_iff, implies_true, Int.cast_ofNat_Int, forall_eq']
  intro i _ hi _
  have hll := ledF_len p l i
  have hstep : ledF p l (i + 1) = ledS l (p.cs.getD i default) (ledF p l i) := rfl
  rw [hstep]
  have hfin : i = p.cs.length → ledF p l i = ledF p l p.cs.length := fun e => by rw [e]
  generalize ledF p l i = m at hll hfin ⊢
  unfold lb15_1
  simp only [↓EVP0, EVQ0, EVQ1, EVQ2, EVQ3, EVQ4, EVA, EVK, EVF, ↓reduceIte, Nat.reduceEqDiff, Nat.reduceAdd, Nat.reduceSub, Nat.reduceMul, Nat.reduceLT, Nat.reduceLeDiff, reduceCtorEq, Int.reduceToNat, Int.reduceLT, Int.reduceLE, Int.reduceAdd, Int.reduceSub, Int.reduceMul, Int.reduceNeg, Int.reduceEq, Nat.reduceMod, forall_eq_or_imp, forall_eq, forall_const, cond_true, cond_false, decide_true, decide_false, true_imp_iff, implies_true, Int.cast_ofNat_Int, forall_eq']
  refine ⟨fun hg => ?_, fun hg => ?_⟩
  · have hi2 : i < p.cs.length := by simpa using hg
    have hcm : (p.cs.getD i default) ∈ p.cs := by rw [List.getD_eq_getElem?_getD, List.getElem?_eq_getElem hi2]; exact List.getElem_mem hi2
    obtain ⟨hca, hcb⟩ := hV.cab _ hcm
    generalize p.cs.getD i default = c at hca hcb ⊢
    have hmem : ∀ x, inN p.ns.length x → -1 ≤ l.getD x.toNat 0 ∧ l.getD x.toNat 0 < p.ns.length := by
      intro x hx
      have hlt : x.toNat < l.length := by unfold inN at hx; omega
      have := List.all_eq_true.1 hR (l.getD x.toNat 0) (by rw [List.getD_eq_getElem?_getD, List.getElem?_eq_getElem hlt]; exact List.getElem_mem hlt)
      simpa [rngB] using this
    have ma := hmem _ hca
    have mb := hmem _ hcb
    have n16 := hV.n16
    unfold inN at hca hcb
    have hi64 : In64 ((i : Int) + 1) := by have := hV.c32; unfold In64; omega
    refine ⟨⟨by omega, by omega⟩, ⟨by omega, by omega⟩, ⟨by omega, by omega⟩, by unfold In64; omega, fun h1 => ?_, fun h1 => ⟨⟨by omega, by omega⟩, ⟨by omega, by omega⟩, by unfold In64; omega, fun h2 => ?_, fun h2 => ?_⟩⟩
    · exact ⟨⟨by omega, by omega⟩, by omega, hi64, hi2, (), by unfold ledS lvl; rw [h1]; rfl⟩
    · exact ⟨⟨by omega, by omega⟩, by omega, hi64, hi2, (), by unfold ledS lvl; rw [h1, h2]; rfl⟩
    · exact ⟨hi64, hi2, (), by unfold ledS lvl; rw [h1, h2]; rfl⟩
  have hii : i = p.cs.length := by simp at hg; omega
  have hm := hfin hii
  intro _
  refine lwp_for (α := Unit) l.length (fun i _ => (List.range i).all (ledOk p l) = true) (fun i _ => [(8, .sl 2 0 1 0 p.ns.length), (99, .rsl 1 l.length (intsF l)), (100, .sc (.int .i64 l.length)), (101, .sc (.int .i64 i))])
    (fun i _ => [(0, .box [.rsl 3 p.ns.length (ndsF p.ns), .rsl 6 p.cs.length (cbsF p.cs)]), (0, .box [.rsl 1 l.length (intsF l)]), (0, .bools m)]) () rfl ?_ (fun _ _ => Nat.zero_le _) ?_
  · simp only [↓EVP0, EVQ0, EVQ1, EVQ2, EVQ3, EVQ4, EVA, EVK, EVF, ↓reduceIte, Nat.reduceEqDiff, Nat.reduceAdd, Nat.reduceSub, Nat.reduceMul, Nat.reduceLT, Nat.reduceLeDiff, reduceCtorEq, Int.reduceToNat, Int.reduceLT, Int.reduceLE, Int.reduceAdd, Int.reduceSub, Int.reduceMul, Int.reduceNeg, Int.reduceEq, Nat.reduceMod, forall_eq_or_imp, forall_eq, forall_const, cond_true, cond_false, decide_true, decide_false, true_imp_iff, implies_true, Int.cast_ofNat_Int, forall_eq']
  intro i _ hi hx
  unfold lb15_0
  simp only [↓EVP0, EVQ0, EVQ1, EVQ2, EVQ3, EVQ4, EVA, EVK, EVF, ↓reduceIte, Nat.reduceEqDiff, Nat.reduceAdd, Nat.reduceSub, Nat.reduceMul, Nat.reduceLT, Nat.reduceLeDiff, reduceCtorEq, Int.reduceToNat, Int.reduceLT, Int.reduceLE, Int.reduceAdd, Int.reduceSub, Int.reduceMul, Int.reduceNeg, Int.reduceEq, Nat.reduceMod, forall_eq_or_imp, forall_eq, forall_const, cond_true, cond_false, decide_true, decide_false, true_imp_iff, implies_true, Int.cast_ofNat_Int, forall_eq']
  have hO : ∀ b, (List.range l.length).all (ledOk p l) = b → ordB p l = b := fun b h => by
    unfold ordB; rw [h, hR, hC, hv, hlen]; simp
  refine ⟨fun hg => ?_, fun hg => ?_⟩
  · have hi2 : i < l.length := by simpa using hg
    have hlo : ledOk p l i = !(decide (0 < l.getD i 0) && !m.getD i false) := by unfold ledOk; rw [hm]
    refine ⟨⟨by omega, by omega⟩, fun _ => ⟨by omega, by omega⟩, fun _ => by omega, fun h => ?_, fun h => ?_⟩
    · symm
      apply hO
      rw [List.all_eq_false]
      refine ⟨i, List.mem_range.2 hi2, ?_⟩
      rw [hlo]; revert h; cases decide (0 < l.getD i 0) <;> cases m.getD i false <;> simp
    · refine ⟨by unfold In64; omega, hi2, (), ?_⟩
      have : ledOk p l i = true := by rw [hlo]; revert h; cases decide (0 < l.getD i 0) <;> cases m.getD i false <;> simp
      rw [List.all_append, hx]; simp [this]
  · have hii : i = l.length := by simp at hg; omega
    subst hii
    exact (hO true hx).symm
end Go.Proofs.Ytggaonafmiklaaa
