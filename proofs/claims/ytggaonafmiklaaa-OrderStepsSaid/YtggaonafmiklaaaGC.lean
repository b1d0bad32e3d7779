/- Chapter 14's Valid. Conditions: none. -/
import Derived.Test.YtggaonafmiklaaaGB
namespace Go.Proofs.Ytggaonafmiklaaa
set_option linter.unusedSimpArgs false
set_option linter.unusedVariables false
open Go.RowKit

theorem all_step {α : Type} {q : α → Bool} {l : List α} {i : Nat} (d : α) (h : i < l.length) (hx : (l.take i).all q = true) (hq : q (l.getD i d) = true) : (l.take (i + 1)).all q = true := by
  rw [take_succ_getD d l i h, List.all_append, hx]; simp [← List.getD_eq_getElem?_getD, hq]
theorem all_fail {α : Type} {q : α → Bool} {l : List α} {i : Nat} (d : α) (h : i < l.length) (hq : q (l.getD i d) = false) : l.all q = false := by
  rw [List.getD_eq_getElem?_getD, List.getElem?_eq_getElem h] at hq
  rw [List.all_eq_false]
  exact ⟨_, List.getElem_mem h, by simpa using hq⟩
theorem all_len {α : Type} {q : α → Bool} {l : List α} (hx : (l.take l.length).all q = true) : l.all q = true := by rwa [List.take_length] at hx

def portsOk (p : Pl) (c : Cb) : Bool := portOk p c.a c.ap && portOk p c.b c.bp
def selfOk (c : Cb) : Bool := !decide (c.a = c.b)
def numOk (c : Cb) : Bool := (decide (1 ≤ c.dl) && decide (c.dl ≤ 100)) && (decide (1 ≤ c.cp) && decide (c.cp ≤ 1000))
def validE (p : Pl) : Int :=
  bif decide (16 < p.ns.length) || decide (32 < p.cs.length) then 5
  else bif !p.ns.all nodeOk then 1
  else bif !p.cs.all (portsOk p) then 2
  else bif repOk p then 8
  else bif !p.cs.all selfOk then 12
  else bif !p.cs.all numOk then 3 else 0

theorem ev_valid (p : Pl) (hp : PlOk p) : Ev Try.prog 25 [plV p] (.sc (.int .i64 (validE p))) := by
  have h33 := ev_validNode
  have h34 := ev_hasPort
  have h35 := ev_repeats p hp
  unfold plV ndL at *
  refine ev_fn Try.func25 comp25 (show 1 ≤ Try.f25.ntmps by decide) ?_; unfold cf25 rf25; simp only [↓EVP0, EVQ0, EVQ1, EVQ2, EVQ3, EVQ4, EVA, EVK, EVF, ↓reduceIte, Nat.reduceEqDiff, Nat.reduceAdd, Nat.reduceSub, Nat.reduceMul, Nat.reduceLT, Nat.reduceLeDiff, reduceCtorEq, Int.reduceToNat, Int.reduceLT, Int.reduceLE, Int.reduceAdd, Int.reduceSub, Int.reduceMul, Int.reduceNeg, Int.reduceEq, Nat.reduceMod, forall_eq_or_imp, forall_eq, forall_const, cond_true, cond_false, decide_true, decide_false, true_imp_iff, implies_true, Int.cast_ofNat_Int, forall_eq']
  intro hn
  refine ⟨fun hg => ?_, fun hg _ => ?_⟩
  · have : (decide (16 < p.ns.length) || decide (32 < p.cs.length)) = true := by simp at hg ⊢; omega
    simp [validE, this]
  have hsz : p.ns.length ≤ 16 ∧ p.cs.length ≤ 32 := by simp at hg; omega
  have hsb : (decide (16 < p.ns.length) || decide (32 < p.cs.length)) = false := by simp; omega
  refine lwp_for (α := Unit) p.ns.length (fun i m => (p.ns.take i).all nodeOk = true) (fun i m => [(1, .ptr 0 0 0 0 0), (22, .rsl 3 p.ns.length (ndsF p.ns)), (23, .sc (.int .i64 p.ns.length)), (24, .sc (.int .i64 i))])
    (fun i m => [(0, .box [.rsl 3 p.ns.length (ndsF p.ns), .rsl 6 p.cs.length (cbsF p.cs)])]) () rfl ?_ (fun _ _ => Nat.zero_le _) ?_
  · simp only [↓EVP0, EVQ0, EVQ1, EVQ2, EVQ3, EVQ4, EVA, EVK, EVF, ↓reduceIte, Nat.reduceEqDiff, Nat.reduceAdd, Nat.reduceSub, Nat.reduceMul, Nat.reduceLT, Nat.reduceLeDiff, reduceCtorEq, Int.reduceToNat, Int.reduceLT, Int.reduceLE, Int.reduceAdd, Int.reduceSub, Int.reduceMul, Int.reduceNeg, Int.reduceEq, Nat.reduceMod, forall_eq_or_imp, forall_eq, forall_const, cond_true, cond_false, decide_true, decide_false, true_imp_iff, implies_true, Int.cast_ofNat_Int, forall_eq']
  intro i _ hi hx
  unfold lb25_3
  simp only [↓EVP0, EVQ0, EVQ1, EVQ2, EVQ3, EVQ4, EVA, EVK, EVF, ↓reduceIte, Nat.reduceEqDiff, Nat.reduceAdd, Nat.reduceSub, Nat.reduceMul, Nat.reduceLT, Nat.reduceLeDiff, reduceCtorEq, Int.reduceToNat, Int.reduceLT, Int.reduceLE, Int.reduceAdd, Int.reduceSub, Int.reduceMul, Int.reduceNeg, Int.reduceEq, Nat.reduceMod, forall_eq_or_imp, forall_eq, forall_const, cond_true, cond_false, decide_true, decide_false, true_imp_iff, implies_true, Int.cast_ofNat_Int, forall_eq']
  refine ⟨fun hg => ?_, fun hg _ => ?_⟩
  · have hi2 : i < p.ns.length := by simpa using hg
    refine ⟨⟨by omega, by omega⟩, callK_ro (h33 _) ?_ ?_⟩
    · simp only [↓EVP0, EVQ0, EVQ1, EVQ2, EVQ3, EVQ4, EVA, EVK, EVF, ↓reduceIte, Nat.reduceEqDiff, Nat.reduceAdd, Nat.reduceSub, Nat.reduceMul, Nat.reduceLT, Nat.reduceLeDiff, reduceCtorEq, Int.reduceToNat, Int.reduceLT, Int.reduceLE, Int.reduceAdd, Int.reduceSub, Int.reduceMul, Int.reduceNeg, Int.reduceEq, Nat.reduceMod, forall_eq_or_imp, forall_eq, forall_const, cond_true, cond_false, decide_true, decide_false, true_imp_iff, implies_true, Int.cast_ofNat_Int, forall_eq']
    simp only [↓EVP0, EVQ0, EVQ1, EVQ2, EVQ3, EVQ4, EVA, EVK, EVF, ↓reduceIte, Nat.reduceEqDiff, Nat.reduceAdd, Nat.reduceSub, Nat.reduceMul, Nat.reduceLT, Nat.reduceLeDiff, reduceCtorEq, Int.reduceToNat, Int.reduceLT, Int.reduceLE, Int.reduceAdd, Int.reduceSub, Int.reduceMul, Int.reduceNeg, Int.reduceEq, Nat.reduceMod, forall_eq_or_imp, forall_eq, forall_const, cond_true, cond_false, decide_true, decide_false, true_imp_iff, implies_true, Int.cast_ofNat_Int, forall_eq']
    refine ⟨fun hg => ?_, fun hg => ⟨by unfold In64; omega, hi2, (), all_step default hi2 hx (by simpa using hg)⟩⟩
    have := all_fail (q := nodeOk) default hi2 (by simpa using hg)
    simp [validE, hsb, this]
  have hii : i = p.ns.length := by simp at hg; omega
  subst hii
  have hN := all_len hx
  refine lwp_for (α := Unit) p.cs.length (fun i m => (p.cs.take i).all (portsOk p) = true) (fun i m => [(1, .ptr 0 0 0 0 0), (33, .rsl 6 p.cs.length (cbsF p.cs)), (34, .sc (.int .i64 p.cs.length)), (35, .sc (.int .i64 i))])
    (fun i m => [(0, .box [.rsl 3 p.ns.length (ndsF p.ns), .rsl 6 p.cs.length (cbsF p.cs)])]) () rfl ?_ (fun _ _ => Nat.zero_le _) ?_
  · simp only [↓EVP0, EVQ0, EVQ1, EVQ2, EVQ3, EVQ4, EVA, EVK, EVF, ↓reduceIte, Nat.reduceEqDiff, Nat.reduceAdd, Nat.reduceSub, Nat.reduceMul, Nat.reduceLT, Nat.reduceLeDiff, reduceCtorEq, Int.reduceToNat, Int.reduceLT, Int.reduceLE, Int.reduceAdd, Int.reduceSub, Int.reduceMul, Int.reduceNeg, Int.reduceEq, Nat.reduceMod, forall_eq_or_imp, forall_eq, forall_const, cond_true, cond_false, decide_true, decide_false, true_imp_iff, implies_true, Int.cast_ofNat_Int, forall_eq']
  intro i _ hi hx
  unfold lb25_2
  simp only [↓EVP0, EVQ0, EVQ1, EVQ2, EVQ3, EVQ4, EVA, EVK, EVF, ↓reduceIte, Nat.reduceEqDiff, Nat.reduceAdd, Nat.reduceSub, Nat.reduceMul, Nat.reduceLT, Nat.reduceLeDiff, reduceCtorEq, Int.reduceToNat, Int.reduceLT, Int.reduceLE, Int.reduceAdd, Int.reduceSub, Int.reduceMul, Int.reduceNeg, Int.reduceEq, Nat.reduceMod, forall_eq_or_imp, forall_eq, forall_const, cond_true, cond_false, decide_true, decide_false, true_imp_iff, implies_true, Int.cast_ofNat_Int, forall_eq']
  refine ⟨fun hg => ?_, fun hg => ?_⟩
  · have hi2 : i < p.cs.length := by simpa using hg
    refine ⟨⟨by omega, by omega⟩, callK_ro (h34 p _ _) ?_ ?_⟩
    · simp only [↓EVP0, EVQ0, EVQ1, EVQ2, EVQ3, EVQ4, EVA, EVK, EVF, ↓reduceIte, Nat.reduceEqDiff, Nat.reduceAdd, Nat.reduceSub, Nat.reduceMul, Nat.reduceLT, Nat.reduceLeDiff, reduceCtorEq, Int.reduceToNat, Int.reduceLT, Int.reduceLE, Int.reduceAdd, Int.reduceSub, Int.reduceMul, Int.reduceNeg, Int.reduceEq, Nat.reduceMod, forall_eq_or_imp, forall_eq, forall_const, cond_true, cond_false, decide_true, decide_false, true_imp_iff, implies_true, Int.cast_ofNat_Int, forall_eq']
    simp only [↓EVP0, EVQ0, EVQ1, EVQ2, EVQ3, EVQ4, EVA, EVK, EVF, ↓reduceIte, Nat.reduceEqDiff, Nat.reduceAdd, Nat.reduceSub, Nat.reduceMul, Nat.reduceLT, Nat.reduceLeDiff, reduceCtorEq, Int.reduceToNat, Int.reduceLT, Int.reduceLE, Int.reduceAdd, Int.reduceSub, Int.reduceMul, Int.reduceNeg, Int.reduceEq, Nat.reduceMod, forall_eq_or_imp, forall_eq, forall_const, cond_true, cond_false, decide_true, decide_false, true_imp_iff, implies_true, Int.cast_ofNat_Int, forall_eq']
    refine lops_ge_imp ?_
    simp only [↓EVP0, EVQ0, EVQ1, EVQ2, EVQ3, EVQ4, EVA, EVK, EVF, ↓reduceIte, Nat.reduceEqDiff, Nat.reduceAdd, Nat.reduceSub, Nat.reduceMul, Nat.reduceLT, Nat.reduceLeDiff, reduceCtorEq, Int.reduceToNat, Int.reduceLT, Int.reduceLE, Int.reduceAdd, Int.reduceSub, Int.reduceMul, Int.reduceNeg, Int.reduceEq, Nat.reduceMod, forall_eq_or_imp, forall_eq, forall_const, cond_true, cond_false, decide_true, decide_false, true_imp_iff, implies_true, Int.cast_ofNat_Int, forall_eq']
    refine gCallK_ro _ (fun _ => h34 p _ _) (fun _ => ?_) ?_
    · simp only [↓EVP0, EVQ0, EVQ1, EVQ2, EVQ3, EVQ4, EVA, EVK, EVF, ↓reduceIte, Nat.reduceEqDiff, Nat.reduceAdd, Nat.reduceSub, Nat.reduceMul, Nat.reduceLT, Nat.reduceLeDiff, reduceCtorEq, Int.reduceToNat, Int.reduceLT, Int.reduceLE, Int.reduceAdd, Int.reduceSub, Int.reduceMul, Int.reduceNeg, Int.reduceEq, Nat.reduceMod, forall_eq_or_imp, forall_eq, forall_const, cond_true, cond_false, decide_true, decide_false, true_imp_iff, implies_true, Int.cast_ofNat_Int, forall_eq']
    simp only [↓EVP0, EVQ0, EVQ1, EVQ2, EVQ3, EVQ4, EVA, EVK, EVF, ↓reduceIte, Nat.reduceEqDiff, Nat.reduceAdd, Nat.reduceSub, Nat.reduceMul, Nat.reduceLT, Nat.reduceLeDiff, reduceCtorEq, Int.reduceToNat, Int.reduceLT, Int.reduceLE, Int.reduceAdd, Int.reduceSub, Int.reduceMul, Int.reduceNeg, Int.reduceEq, Nat.reduceMod, forall_eq_or_imp, forall_eq, forall_const, cond_true, cond_false, decide_true, decide_false, true_imp_iff, implies_true, Int.cast_ofNat_Int, forall_eq']
    have hv : portsOk p (p.cs.getD i default) = (portOk p (p.cs.getD i default).a (p.cs.getD i default).ap && portOk p (p.cs.getD i default).b (p.cs.getD i default).bp) := rfl
    refine ⟨fun hg => ?_, fun hg => ⟨by unfold In64; omega, hi2, (), all_step default hi2 hx (by rw [hv]; revert hg; cases portOk p (p.cs.getD i default).a (p.cs.getD i default).ap <;> cases portOk p (p.cs.getD i default).b (p.cs.getD i default).bp <;> simp)⟩⟩
    have := all_fail (q := portsOk p) default hi2 (by rw [hv]; revert hg; cases portOk p (p.cs.getD i default).a (p.cs.getD i default).ap <;> cases portOk p (p.cs.getD i default).b (p.cs.getD i default).bp <;> simp)
    simp [validE, hsb, hN, this]
  have hii : i = p.cs.length := by simp at hg; omega
  subst hii
  have hP := all_len hx
  refine callK_ro h35 ?_ ?_
  · simp only [↓EVP0, EVQ0, EVQ1, EVQ2, EVQ3, EVQ4, EVA, EVK, EVF, ↓reduceIte, Nat.reduceEqDiff, Nat.reduceAdd, Nat.reduceSub, Nat.reduceMul, Nat.reduceLT, Nat.reduceLeDiff, reduceCtorEq, Int.reduceToNat, Int.reduceLT, Int.reduceLE, Int.reduceAdd, Int.reduceSub, Int.reduceMul, Int.reduceNeg, Int.reduceEq, Nat.reduceMod, forall_eq_or_imp, forall_eq, forall_const, cond_true, cond_false, decide_true, decide_false, true_imp_iff, implies_true, Int.cast_ofNat_Int, forall_eq']
  simp only [↓EVP0, EVQ0, EVQ1, EVQ2, EVQ3, EVQ4, EVA, EVK, EVF, ↓reduceIte, Nat.reduceEqDiff, Nat.reduceAdd, Nat.reduceSub, Nat.reduceMul, Nat.reduceLT, Nat.reduceLeDiff, reduceCtorEq, Int.reduceToNat, Int.reduceLT, Int.reduceLE, Int.reduceAdd, Int.reduceSub, Int.reduceMul, Int.reduceNeg, Int.reduceEq, Nat.reduceMod, forall_eq_or_imp, forall_eq, forall_const, cond_true, cond_false, decide_true, decide_false, true_imp_iff, implies_true, Int.cast_ofNat_Int, forall_eq']
  refine ⟨fun hg => by simp [validE, hsb, hN, hP, hg], fun hR _ => ?_⟩
  refine lwp_for (α := Unit) p.cs.length (fun i m => (p.cs.take i).all selfOk = true) (fun i m => [(1, .ptr 0 0 0 0 0), (59, .rsl 6 p.cs.length (cbsF p.cs)), (60, .sc (.int .i64 p.cs.length)), (61, .sc (.int .i64 i))])
    (fun i m => [(0, .box [.rsl 3 p.ns.length (ndsF p.ns), .rsl 6 p.cs.length (cbsF p.cs)])]) () rfl ?_ (fun _ _ => Nat.zero_le _) ?_
  · simp only [↓EVP0, EVQ0, EVQ1, EVQ2, EVQ3, EVQ4, EVA, EVK, EVF, ↓reduceIte, Nat.reduceEqDiff, Nat.reduceAdd, Nat.reduceSub, Nat.reduceMul, Nat.reduceLT, Nat.reduceLeDiff, reduceCtorEq, Int.reduceToNat, Int.reduceLT, Int.reduceLE, Int.reduceAdd, Int.reduceSub, Int.reduceMul, Int.reduceNeg, Int.reduceEq, Nat.reduceMod, forall_eq_or_imp, forall_eq, forall_const, cond_true, cond_false, decide_true, decide_false, true_imp_iff, implies_true, Int.cast_ofNat_Int, forall_eq']
  intro i _ hi hx
  unfold lb25_1
  simp only [↓EVP0, EVQ0, EVQ1, EVQ2, EVQ3, EVQ4, EVA, EVK, EVF, ↓reduceIte, Nat.reduceEqDiff, Nat.reduceAdd, Nat.reduceSub, Nat.reduceMul, Nat.reduceLT, Nat.reduceLeDiff, reduceCtorEq, Int.reduceToNat, Int.reduceLT, Int.reduceLE, Int.reduceAdd, Int.reduceSub, Int.reduceMul, Int.reduceNeg, Int.reduceEq, Nat.reduceMod, forall_eq_or_imp, forall_eq, forall_const, cond_true, cond_false, decide_true, decide_false, true_imp_iff, implies_true, Int.cast_ofNat_Int, forall_eq']
  refine ⟨fun hg => ?_, fun hg _ => ?_⟩
  · have hi2 : i < p.cs.length := by simpa using hg
    refine ⟨⟨by omega, by omega⟩, fun hg => ?_, fun hg => ⟨by unfold In64; omega, hi2, (), all_step default hi2 hx (by unfold selfOk; rw [hg]; rfl)⟩⟩
    have := all_fail (q := selfOk) default hi2 (by unfold selfOk; rw [hg]; rfl)
    simp [validE, hsb, hN, hP, hR, this]
  have hii : i = p.cs.length := by simp at hg; omega
  subst hii
  have hS := all_len hx
  refine lwp_for (α := Unit) p.cs.length (fun i m => (p.cs.take i).all numOk = true) (fun i m => [(1, .ptr 0 0 0 0 0), (72, .rsl 6 p.cs.length (cbsF p.cs)), (73, .sc (.int .i64 p.cs.length)), (74, .sc (.int .i64 i))])
    (fun i m => [(0, .box [.rsl 3 p.ns.length (ndsF p.ns), .rsl 6 p.cs.length (cbsF p.cs)])]) () rfl ?_ (fun _ _ => Nat.zero_le _) ?_
  · simp only [↓EVP0, EVQ0, EVQ1, EVQ2, EVQ3, EVQ4, EVA, EVK, EVF, ↓reduceIte, Nat.reduceEqDiff, Nat.reduceAdd, Nat.reduceSub, Nat.reduceMul, Nat.reduceLT, Nat.reduceLeDiff, reduceCtorEq, Int.reduceToNat, Int.reduceLT, Int.reduceLE, Int.reduceAdd, Int.reduceSub, Int.reduceMul, Int.reduceNeg, Int.reduceEq, Nat.reduceMod, forall_eq_or_imp, forall_eq, forall_const, cond_true, cond_false, decide_true, decide_false, true_imp_iff, implies_true, Int.cast_ofNat_Int, forall_eq']
  intro i _ hi hx
  unfold lb25_0
  simp only [↓EVP0, EVQ0, EVQ1, EVQ2, EVQ3, EVQ4, EVA, EVK, EVF, ↓reduceIte, Nat.reduceEqDiff, Nat.reduceAdd, Nat.reduceSub, Nat.reduceMul, Nat.reduceLT, Nat.reduceLeDiff, reduceCtorEq, Int.reduceToNat, Int.reduceLT, Int.reduceLE, Int.reduceAdd, Int.reduceSub, Int.reduceMul, Int.reduceNeg, Int.reduceEq, Nat.reduceMod, forall_eq_or_imp, forall_eq, forall_const, cond_true, cond_false, decide_true, decide_false, true_imp_iff, implies_true, Int.cast_ofNat_Int, forall_eq']
  refine ⟨fun hg => ?_, fun hg => ?_⟩
  · have hi2 : i < p.cs.length := by simpa using hg
    refine ⟨⟨by omega, by omega⟩, fun hg => ?_, fun hg => ⟨by unfold In64; omega, hi2, (), all_step default hi2 hx (by unfold numOk; simp at hg ⊢; omega)⟩⟩
    have := all_fail (q := numOk) default hi2 (by unfold numOk; simp at hg ⊢; omega)
    simp [validE, hsb, hN, hP, hR, hS, this]
  have hii : i = p.cs.length := by simp at hg; omega
  subst hii
  have hX := all_len hx
  simp [validE, hsb, hN, hP, hR, hS, hX]
end Go.Proofs.Ytggaonafmiklaaa
