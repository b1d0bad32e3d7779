/- Chapter 19: the reference's Valid; Chapter 19: when two tables are the same; Chapter 19: the reference's Make; Chapter 19: Make returns the specified table. Conditions: none. -/
import Derived.Test.YtcdepkflghcjpaaDoorMH
namespace Go.Proofs.YtcdepkflghcjpaaDoor
set_option linter.unusedSimpArgs false
set_option linter.unusedVariables false
open Go.RowKit
set_option maxRecDepth 20000

theorem ev_at19 (p : Pl) (i x : Int) (h0 : 0 ≤ i) (h1 : i < p.cs.length) : Ev Tryd.prog 43 [plV p, .sc (.int .i64 i), .sc (.int .i64 x)] (.sc (.bool (acrE (p.cs.getD i.toNat default) x).2)) := by
  unfold plV
  refine ev_fn Tryd.func43 comp43 (show 3 ≤ Tryd.f43.ntmps by decide) ?_; unfold cf43 rf43; simp only [↓EVP0, EVQ0, EVQ1, EVQ2, EVQ3, EVQ4, EVA, EVK, EVF,EVFT, ↓reduceIte, Nat.reduceEqDiff, Nat.reduceAdd, Nat.reduceSub, Nat.reduceMul, Nat.reduceLT, Nat.reduceLeDiff, reduceCtorEq, Int.reduceToNat, Int.reduceLT, Int.reduceLE, Int.reduceAdd, Int.reduceSub, Int.reduceMul, Int.reduceNeg, Int.reduceEq, Nat.reduceMod, forall_eq_or_imp, forall_eq, forall_const, cond_true, cond_false, decide_true, decide_false, true_imp_iff, implies_true, Int.cast_ofNat_Int, forall_eq']
  have e : (acrE (p.cs.getD i.toNat default) x).2 = (decide ((p.cs.getD i.toNat default).a = x) || decide ((p.cs.getD i.toNat default).b = x)) := by
    unfold acrE
    rw [show decide (x = (p.cs.getD i.toNat default).a) = decide ((p.cs.getD i.toNat default).a = x) from decide_eq_decide.2 eq_comm, show decide (x = (p.cs.getD i.toNat default).b) = decide ((p.cs.getD i.toNat default).b = x) from decide_eq_decide.2 eq_comm]
    cases decide ((p.cs.getD i.toNat default).a = x) <;> cases decide ((p.cs.getD i.toNat default).b = x) <;> rfl
  rw [e]
  refine ⟨⟨h0, h1⟩, fun _ => ⟨h0, h1⟩, ?_⟩
  cases decide ((p.cs.getD i.toNat default).a = x) <;> rfl
end Go.Proofs.YtcdepkflghcjpaaDoor
namespace Go.Proofs.YtcdepkflghcjpaaDoor
set_option linter.unusedSimpArgs false
set_option linter.unusedVariables false
open Go.RowKit
set_option maxRecDepth 20000

def rowEq (x y : List Int) : Bool := decide (x.length = y.length) && (List.range x.length).all fun k => decide (x.getD k 0 = y.getD k 0)
def sameT (a b : Tb) : Bool := decide (a.length = b.length) && (List.range a.length).all fun u => rowEq (a.getD u ([], [])).1 (b.getD u ([], [])).1 && rowEq (a.getD u ([], [])).2 (b.getD u ([], [])).2
theorem rowEq_refl (x : List Int) : rowEq x x = true := by
  unfold rowEq
  rw [decide_eq_true rfl, rng_yes19 (fun i _ => decide_eq_true rfl)]; rfl
theorem sameT_refl (a : Tb) : sameT a a = true := by
  unfold sameT
  rw [decide_eq_true rfl, rng_yes19 (fun i _ => by rw [rowEq_refl, rowEq_refl]; rfl)]; rfl
theorem ev_same (a b : Tb) : Ev Tryd.prog 15 [.rsl 2 a.length (tabF a), .rsl 2 b.length (tabF b)] (.sc (.bool (sameT a b))) := by
  refine ev_fn Tryd.func15 comp15 (show 2 ≤ Tryd.f15.ntmps by decide) ?_; unfold cf15 rf15; simp only [↓EVP0, EVQ0, EVQ1, EVQ2, EVQ3, EVQ4, EVA, EVK, EVF,EVFT, ↓reduceIte, Nat.reduceEqDiff, Nat.reduceAdd, Nat.reduceSub, Nat.reduceMul, Nat.reduceLT, Nat.reduceLeDiff, reduceCtorEq, Int.reduceToNat, Int.reduceLT, Int.reduceLE, Int.reduceAdd, Int.reduceSub, Int.reduceMul, Int.reduceNeg, Int.reduceEq, Nat.reduceMod, forall_eq_or_imp, forall_eq, forall_const, cond_true, cond_false, decide_true, decide_false, true_imp_iff, implies_true, Int.cast_ofNat_Int, forall_eq']
  intro _ _
  refine ⟨fun hg => ?_, fun hg => ?_⟩
  · unfold sameT
    rw [decide_eq_false (show ¬ a.length = b.length from fun h => by rw [decide_eq_true (show (a.length : Int) = b.length by omega)] at hg; simp at hg)]; rfl
  have hn : a.length = b.length := by
    by_cases h : (a.length : Int) = b.length
    · omega
    · rw [decide_eq_false h] at hg; simp at hg
  have hvT : sameT a b = ((List.range a.length).all fun u => rowEq (a.getD u ([], [])).1 (b.getD u ([], [])).1 && rowEq (a.getD u ([], [])).2 (b.getD u ([], [])).2) := by
    unfold sameT; rw [decide_eq_true hn]; rfl
  refine lwp_for (α := Unit) a.length (fun u _ => ∀ j, j < u → (rowEq (a.getD j ([], [])).1 (b.getD j ([], [])).1 && rowEq (a.getD j ([], [])).2 (b.getD j ([], [])).2) = true) (fun u _ => [(0, .rsl 2 a.length (tabF a)), (1, .rsl 2 b.length (tabF b)), (5, .sc (.int .i64 u))])
    (fun _ _ => []) () (fun j hj => absurd hj (Nat.not_lt_zero _)) ?_ (fun _ _ => Nat.zero_le _) ?_
  · simp only [↓EVP0, EVQ0, EVQ1, EVQ2, EVQ3, EVQ4, EVA, EVK, EVF,EVFT, ↓reduceIte, Nat.reduceEqDiff, Nat.reduceAdd, Nat.reduceSub, Nat.reduceMul, Nat.reduceLT, Nat.reduceLeDiff, reduceCtorEq, Int.reduceToNat, Int.reduceLT, Int.reduceLE, Int.reduceAdd, Int.reduceSub, Int.reduceMul, Int.reduceNeg, Int.reduceEq, Nat.reduceMod, forall_eq_or_imp, forall_eq, forall_const, cond_true, cond_false, decide_true, decide_false, true_imp_iff, implies_true, Int.cast_ofNat_Int, forall_eq']
  intro u _ hu hx
  unfold lb15_2
  simp only [↓EVP0, EVQ0, EVQ1, EVQ2, EVQ3, EVQ4, EVA, EVK, EVF,EVFT, ↓reduceIte, Nat.reduceEqDiff, Nat.reduceAdd, Nat.reduceSub, Nat.reduceMul, Nat.reduceLT, Nat.reduceLeDiff, reduceCtorEq, Int.reduceToNat, Int.reduceLT, Int.reduceLE, Int.reduceAdd, Int.reduceSub, Int.reduceMul, Int.reduceNeg, Int.reduceEq, Nat.reduceMod, forall_eq_or_imp, forall_eq, forall_const, cond_true, cond_false, decide_true, decide_false, true_imp_iff, implies_true, Int.cast_ofNat_Int, forall_eq']
  refine fun _ => ⟨fun hg2 => ?_, fun hg2 => ?_⟩
  rotate_left
  · have hu2 : u = a.length := by have := of_decide_eq_false hg2; omega
    subst hu2
    rw [hvT, rng_yes19 hx]
  have hu2 : u < a.length := by have := of_decide_eq_true hg2; omega
  have hno : (rowEq (a.getD u ([], [])).1 (b.getD u ([], [])).1 && rowEq (a.getD u ([], [])).2 (b.getD u ([], [])).2) = false → false = sameT a b := fun h => by rw [hvT, rng_no19 hu2 h]
  refine lwp_for (α := Unit) 2 (fun k _ => (0 < k → rowEq (a.getD u ([], [])).1 (b.getD u ([], [])).1 = true) ∧ (1 < k → rowEq (a.getD u ([], [])).1 (b.getD u ([], [])).1 = true ∧ rowEq (a.getD u ([], [])).2 (b.getD u ([], [])).2 = true)) (fun k _ => [(0, .rsl 2 a.length (tabF a)), (1, .rsl 2 b.length (tabF b)), (5, .sc (.int .i64 u)), (6, .sc (.int .i64 k))])
    (fun _ _ => []) () ⟨fun h => absurd h (by omega), fun h => absurd h (by omega)⟩ ?_ (fun _ _ => Nat.zero_le _) ?_
  · simp only [↓EVP0, EVQ0, EVQ1, EVQ2, EVQ3, EVQ4, EVA, EVK, EVF,EVFT, ↓reduceIte, Nat.reduceEqDiff, Nat.reduceAdd, Nat.reduceSub, Nat.reduceMul, Nat.reduceLT, Nat.reduceLeDiff, reduceCtorEq, Int.reduceToNat, Int.reduceLT, Int.reduceLE, Int.reduceAdd, Int.reduceSub, Int.reduceMul, Int.reduceNeg, Int.reduceEq, Nat.reduceMod, forall_eq_or_imp, forall_eq, forall_const, cond_true, cond_false, decide_true, decide_false, true_imp_iff, implies_true, Int.cast_ofNat_Int, forall_eq']
  intro ph _ hph hph2
  have h3c : ph = 0 ∨ ph = 1 ∨ ph = 2 := by omega
  rcases h3c with rfl | rfl | rfl
  · unfold lb15_1
    simp only [↓EVP0, EVQ0, EVQ1, EVQ2, EVQ3, EVQ4, EVA, EVK, EVF,EVFT, ↓reduceIte, Nat.reduceEqDiff, Nat.reduceAdd, Nat.reduceSub, Nat.reduceMul, Nat.reduceLT, Nat.reduceLeDiff, reduceCtorEq, Int.reduceToNat, Int.reduceLT, Int.reduceLE, Int.reduceAdd, Int.reduceSub, Int.reduceMul, Int.reduceNeg, Int.reduceEq, Nat.reduceMod, forall_eq_or_imp, forall_eq, forall_const, cond_true, cond_false, decide_true, decide_false, true_imp_iff, implies_true, Int.cast_ofNat_Int, forall_eq']
    refine ⟨⟨by omega, by omega⟩, ⟨by omega, by omega⟩, fun hg4 => ?_, fun hg4 => ?_⟩
    · refine hno ?_
      have h : rowEq (a.getD u ([], [])).1 (b.getD u ([], [])).1 = false := by
        unfold rowEq
        rw [decide_eq_false (show ¬ (a.getD u ([], [])).1.length = (b.getD u ([], [])).1.length from fun h => by rw [decide_eq_true (show ((a.getD u ([], [])).1.length : Int) = (b.getD u ([], [])).1.length by omega)] at hg4; simp at hg4), Bool.false_and]
      rw [h, Bool.false_and]
    have hrn : (a.getD u ([], [])).1.length = (b.getD u ([], [])).1.length := by
      by_cases h : ((a.getD u ([], [])).1.length : Int) = (b.getD u ([], [])).1.length
      · omega
      · rw [decide_eq_false h] at hg4; simp at hg4
    refine lwp_for (α := Unit) (a.getD u ([], [])).1.length (fun k _ => ∀ j, j < k → decide ((a.getD u ([], [])).1.getD j 0 = (b.getD u ([], [])).1.getD j 0) = true) (fun k _ => [(0, .rsl 2 a.length (tabF a)), (1, .rsl 2 b.length (tabF b)), (5, .sc (.int .i64 u)), (6, .sc (.int .i64 0)), (7, .sc (.int .i64 k))])
      (fun _ _ => []) () (fun j hj => absurd hj (Nat.not_lt_zero _)) ?_ (fun _ _ => Nat.zero_le _) ?_
    · simp only [↓EVP0, EVQ0, EVQ1, EVQ2, EVQ3, EVQ4, EVA, EVK, EVF,EVFT, ↓reduceIte, Nat.reduceEqDiff, Nat.reduceAdd, Nat.reduceSub, Nat.reduceMul, Nat.reduceLT, Nat.reduceLeDiff, reduceCtorEq, Int.reduceToNat, Int.reduceLT, Int.reduceLE, Int.reduceAdd, Int.reduceSub, Int.reduceMul, Int.reduceNeg, Int.reduceEq, Nat.reduceMod, forall_eq_or_imp, forall_eq, forall_const, cond_true, cond_false, decide_true, decide_false, true_imp_iff, implies_true, Int.cast_ofNat_Int, forall_eq']
    intro k _ hk hz
    unfold lb15_0
    simp only [↓EVP0, EVQ0, EVQ1, EVQ2, EVQ3, EVQ4, EVA, EVK, EVF,EVFT, ↓reduceIte, Nat.reduceEqDiff, Nat.reduceAdd, Nat.reduceSub, Nat.reduceMul, Nat.reduceLT, Nat.reduceLeDiff, reduceCtorEq, Int.reduceToNat, Int.reduceLT, Int.reduceLE, Int.reduceAdd, Int.reduceSub, Int.reduceMul, Int.reduceNeg, Int.reduceEq, Nat.reduceMod, forall_eq_or_imp, forall_eq, forall_const, cond_true, cond_false, decide_true, decide_false, true_imp_iff, implies_true, Int.cast_ofNat_Int, forall_eq']
    refine ⟨⟨by omega, by omega⟩, fun _ => ⟨fun hg5 => ?_, fun hg5 => ?_⟩⟩
    rotate_left
    · have hk2 : k = (a.getD u ([], [])).1.length := by have := of_decide_eq_false hg5; omega
      have hrow : rowEq (a.getD u ([], [])).1 (b.getD u ([], [])).1 = true := by
        unfold rowEq
        rw [decide_eq_true hrn, rng_yes19 (fun i hi => hz i (by omega))]; rfl
      exact ⟨by unfold In64; omega, (), hrow⟩
    have hk2 : k < (a.getD u ([], [])).1.length := by have := of_decide_eq_true hg5; omega
    refine ⟨⟨by omega, by omega⟩, ⟨by omega, by omega⟩, ⟨by omega, by omega⟩, ⟨by omega, by omega⟩, fun hg6 => ?_, fun hg6 => ?_⟩
    · refine hno ?_
      have h : rowEq (a.getD u ([], [])).1 (b.getD u ([], [])).1 = false := by
        unfold rowEq
        rw [rng_no19 hk2 (by
          cases e : decide ((a.getD u ([], [])).1.getD k 0 = (b.getD u ([], [])).1.getD k 0)
          · rfl
          · rw [e] at hg6; simp at hg6), Bool.and_false]
      rw [h, Bool.false_and]
    · refine ⟨by unfold In64; omega, hk2, (), fun j hj => ?_⟩
      by_cases e : j = k
      · rw [e]
        cases e2 : decide ((a.getD u ([], [])).1.getD k 0 = (b.getD u ([], [])).1.getD k 0)
        · rw [e2] at hg6; simp at hg6
        · rfl
      · exact hz j (by omega)
  · unfold lb15_1
    simp only [↓EVP0, EVQ0, EVQ1, EVQ2, EVQ3, EVQ4, EVA, EVK, EVF,EVFT, ↓reduceIte, Nat.reduceEqDiff, Nat.reduceAdd, Nat.reduceSub, Nat.reduceMul, Nat.reduceLT, Nat.reduceLeDiff, reduceCtorEq, Int.reduceToNat, Int.reduceLT, Int.reduceLE, Int.reduceAdd, Int.reduceSub, Int.reduceMul, Int.reduceNeg, Int.reduceEq, Nat.reduceMod, forall_eq_or_imp, forall_eq, forall_const, cond_true, cond_false, decide_true, decide_false, true_imp_iff, implies_true, Int.cast_ofNat_Int, forall_eq']
    refine ⟨⟨by omega, by omega⟩, ⟨by omega, by omega⟩, fun hg4 => ?_, fun hg4 => ?_⟩
    · refine hno ?_
      have h : rowEq (a.getD u ([], [])).2 (b.getD u ([], [])).2 = false := by
        unfold rowEq
        rw [decide_eq_false (show ¬ (a.getD u ([], [])).2.length = (b.getD u ([], [])).2.length from fun h => by rw [decide_eq_true (show ((a.getD u ([], [])).2.length : Int) = (b.getD u ([], [])).2.length by omega)] at hg4; simp at hg4), Bool.false_and]
      rw [h, Bool.and_false]
    have hrn : (a.getD u ([], [])).2.length = (b.getD u ([], [])).2.length := by
      by_cases h : ((a.getD u ([], [])).2.length : Int) = (b.getD u ([], [])).2.length
      · omega
      · rw [decide_eq_false h] at hg4; simp at hg4
    refine lwp_for (α := Unit) (a.getD u ([], [])).2.length (fun k _ => ∀ j, j < k → decide ((a.getD u ([], [])).2.getD j 0 = (b.getD u ([], [])).2.getD j 0) = true) (fun k _ => [(0, .rsl 2 a.length (tabF a)), (1, .rsl 2 b.length (tabF b)), (5, .sc (.int .i64 u)), (6, .sc (.int .i64 1)), (7, .sc (.int .i64 k))])
      (fun _ _ => []) () (fun j hj => absurd hj (Nat.not_lt_zero _)) ?_ (fun _ _ => Nat.zero_le _) ?_
    · simp only [↓EVP0, EVQ0, EVQ1, EVQ2, EVQ3, EVQ4, EVA, EVK, EVF,EVFT, ↓reduceIte, Nat.reduceEqDiff, Nat.reduceAdd, Nat.reduceSub, Nat.reduceMul, Nat.reduceLT, Nat.reduceLeDiff, reduceCtorEq, Int.reduceToNat, Int.reduceLT, Int.reduceLE, Int.reduceAdd, Int.reduceSub, Int.reduceMul, Int.reduceNeg, Int.reduceEq, Nat.reduceMod, forall_eq_or_imp, forall_eq, forall_const, cond_true, cond_false, decide_true, decide_false, true_imp_iff, implies_true, Int.cast_ofNat_Int, forall_eq']
    intro k _ hk hz
    unfold lb15_0
    simp only [↓EVP0, EVQ0, EVQ1, EVQ2, EVQ3, EVQ4, EVA, EVK, EVF,EVFT, ↓reduceIte, Nat.reduceEqDiff, Nat.reduceAdd, Nat.reduceSub, Nat.reduceMul, Nat.reduceLT, Nat.reduceLeDiff, reduceCtorEq, Int.reduceToNat, Int.reduceLT, Int.reduceLE, Int.reduceAdd, Int.reduceSub, Int.reduceMul, Int.reduceNeg, Int.reduceEq, Nat.reduceMod, forall_eq_or_imp, forall_eq, forall_const, cond_true, cond_false, decide_true, decide_false, true_imp_iff, implies_true, Int.cast_ofNat_Int, forall_eq']
    refine ⟨⟨by omega, by omega⟩, fun _ => ⟨fun hg5 => ?_, fun hg5 => ?_⟩⟩
    rotate_left
    · have hk2 : k = (a.getD u ([], [])).2.length := by have := of_decide_eq_false hg5; omega
      have hrow : rowEq (a.getD u ([], [])).2 (b.getD u ([], [])).2 = true := by
        unfold rowEq
        rw [decide_eq_true hrn, rng_yes19 (fun i hi => hz i (by omega))]; rfl
      exact ⟨by unfold In64; omega, (), hph2.1 (by omega), hph2.1 (by omega), hrow⟩
    have hk2 : k < (a.getD u ([], [])).2.length := by have := of_decide_eq_true hg5; omega
    refine ⟨⟨by omega, by omega⟩, ⟨by omega, by omega⟩, ⟨by omega, by omega⟩, ⟨by omega, by omega⟩, fun hg6 => ?_, fun hg6 => ?_⟩
    · refine hno ?_
      have h : rowEq (a.getD u ([], [])).2 (b.getD u ([], [])).2 = false := by
        unfold rowEq
        rw [rng_no19 hk2 (by
          cases e : decide ((a.getD u ([], [])).2.getD k 0 = (b.getD u ([], [])).2.getD k 0)
          · rfl
          · rw [e] at hg6; simp at hg6), Bool.and_false]
      rw [h, Bool.and_false]
    · refine ⟨by unfold In64; omega, hk2, (), fun j hj => ?_⟩
      by_cases e : j = k
      · rw [e]
        cases e2 : decide ((a.getD u ([], [])).2.getD k 0 = (b.getD u ([], [])).2.getD k 0)
        · rw [e2] at hg6; simp at hg6
        · rfl
      · exact hz j (by omega)
  · unfold lb15_1
    simp only [↓EVP0, EVQ0, EVQ1, EVQ2, EVQ3, EVQ4, EVA, EVK, EVF,EVFT, ↓reduceIte, Nat.reduceEqDiff, Nat.reduceAdd, Nat.reduceSub, Nat.reduceMul, Nat.reduceLT, Nat.reduceLeDiff, reduceCtorEq, Int.reduceToNat, Int.reduceLT, Int.reduceLE, Int.reduceAdd, Int.reduceSub, Int.reduceMul, Int.reduceNeg, Int.reduceEq, Nat.reduceMod, forall_eq_or_imp, forall_eq, forall_const, cond_true, cond_false, decide_true, decide_false, true_imp_iff, implies_true, Int.cast_ofNat_Int, forall_eq']
    obtain ⟨r1, r2⟩ := hph2.2 (by omega)
    refine ⟨by unfold In64; omega, hu2, (), fun j hj => ?_⟩
    by_cases e : j = u
    · rw [e, r1, r2]; rfl
    · exact hx j (by omega)
end Go.Proofs.YtcdepkflghcjpaaDoor
namespace Go.Proofs.YtcdepkflghcjpaaDoor
set_option linter.unusedSimpArgs false
set_option linter.unusedVariables false
open Go.RowKit
set_option maxRecDepth 20000

def famN (F : Nat → Nat × LO) (N : Nat) : List (Nat × LO) := (List.range N).map F
def cF (C : Nat → List Int) (j : Nat) : Nat × LO := (0, .ints (C j))
def updC (C : Nat → List Int) (i : Nat) (x : List Int) (j : Nat) : List Int := if j = i then x else C j
theorem famN_len (F : Nat → Nat × LO) (N : Nat) : (famN F N).length = N := by simp [famN]
theorem famN_get (F : Nat → Nat × LO) {N i : Nat} (hi : i < N) (d : Nat × LO) : (famN F N).getD i d = F i := by
  unfold famN
  rw [List.getD_eq_getElem?_getD, List.getElem?_map, List.getElem?_range hi]; rfl
theorem famN_push (F : Nat → Nat × LO) (N : Nat) : famN F N ++ [F N] = famN F (N + 1) := by
  unfold famN; rw [List.range_succ, List.map_append]; rfl
theorem famN_set (C : Nat → List Int) {N i : Nat} (hi : i < N) (x : List Int) : (famN (cF C) N).set i (0, .ints x) = famN (cF (updC C i x)) N := by
  unfold famN
  apply List.ext_getElem?
  intro j
  by_cases e : j = i
  · subst e
    rw [List.getElem?_set_self (by simp; exact hi), List.getElem?_map, List.getElem?_range hi]
    simp [cF, updC]
  · rw [List.getElem?_set_ne (fun h => e h.symm), List.getElem?_map, List.getElem?_map]
    by_cases hj : j < N
    · rw [List.getElem?_range hj]; simp [cF, updC, e]
    · rw [List.getElem?_eq_none (by simp; omega)]; rfl
def oI (b : Nat → Bool) (i : Nat) (q : Bool) : Nat := 2 * i + (bif q ^^ b i then 1 else 0)
def gF (b : Nat → Bool) (n u : Nat) (i : Nat) : List LV := if i < u then [.sl (oI b i false + 2) 0 1 0 n, .sl (oI b i true + 2) 0 1 0 n] else [.nsl, .nsl]
theorem oI_lt {b : Nat → Bool} {n i : Nat} {q : Bool} (h : i < n) : oI b i q < 2 * n := by
  unfold oI; cases q ^^ b i <;> simp <;> omega
theorem oI_inj {b : Nat → Bool} {i j : Nat} {q r : Bool} (h : oI b i q = oI b j r) : i = j ∧ q = r := by
  unfold oI at h
  have hij : i = j := by revert h; cases q ^^ b i <;> cases r ^^ b j <;> simp <;> omega
  subst hij
  refine ⟨rfl, ?_⟩
  revert h
  cases q <;> cases r <;> cases b i <;> simp
def updB (b : Nat → Bool) (u : Nat) (v : Bool) (i : Nat) : Bool := if i = u then v else b i
theorem gF_set {b : Nat → Bool} {n u : Nat} {x y z : Nat} {v : Bool} (hx : x = oI (updB b u v) u false + 2) (hy : y = oI (updB b u v) u true + 2) :
    (LO.row 2 n fun j => if j = u then ((gF b n u u).set 0 (.sl x 0 1 0 n)).set 1 (.sl y 0 1 0 n) else if j = u then (gF b n u u).set 0 (.sl z 0 1 0 n) else gF b n u j) = LO.row 2 n (gF (updB b u v) n (u + 1)) := by
  congr 1
  funext j
  by_cases e : j = u
  · subst e
    rw [if_pos rfl]
    unfold gF
    rw [if_neg (Nat.lt_irrefl _), if_pos (Nat.lt_succ_self _), hx, hy]; rfl
  · rw [if_neg e, if_neg e]
    unfold gF
    by_cases h : j < u
    · rw [if_pos h, if_pos (by omega)]
      unfold oI updB
      rw [if_neg e]
    · rw [if_neg h, if_neg (by omega)]
theorem gF_len (b : Nat → Bool) (n u i : Nat) : (gF b n u i).length = 2 := by unfold gF; split <;> rfl
theorem gF_all {b : Nat → Bool} {n u N : Nat} (h : 2 * u + 2 ≤ N) : ∀ i, i < n → allC N (List.take 2 (gF b n u i)) := by
  intro i _
  unfold gF
  split
  · rename_i hi
    have h1 := oI_lt (b := b) (q := false) hi
    have h2 := oI_lt (b := b) (q := true) hi
    exact ⟨show _ < N by omega, show _ < N by omega, trivial⟩
  · exact ⟨trivial, trivial, trivial⟩
theorem weakH_famN {n k N : Nat} {h : LH} {F : Nat → Nat × LO} (h1 : ∀ i, i < N → h.f (k + i) = F i ∧ belowO n (F i).2) : weakH n h k (famN F N) := by
  have := weakH_app (n := n) (h := h) (A := famN F N) (B := []) (k := k) (fun i hi => by rw [famN_len] at hi; rw [famN_get F hi]; exact h1 i hi) trivial
  rw [List.append_nil] at this; exact this
theorem wk_fam {n N : Nat} {a b : Nat × LO} {C : Nat → List Int} : weakH n (mkH (a :: b :: famN (cF C) N)) 2 (famN (cF C) N) := by
  refine weakH_famN fun i hi => ⟨?_, trivial⟩
  rw [Nat.add_comm]; exact famN_get (cF C) hi _
def hitC (l : List Int) (cs : List Cb) (up : List Bool) (D : St → Int) (s : St) (i : Nat) : Bool := decide (0 < D s) && (hitS l cs up D s (D s) i).isSome
def ffE (f : Nat → Bool) (m : Nat) : Nat → Int
  | 0 => -1
  | j + 1 => bif f (m - (j + 1)) then ((m - (j + 1) : Nat) : Int) else ffE f m j
theorem ff_spec (f : Nat → Bool) (m : Nat) : ∀ j, j ≤ m → ((∀ i, m - j ≤ i → i < m → f i = false) ∧ ffE f m j = -1) ∨ ∃ i, m - j ≤ i ∧ i < m ∧ f i = true ∧ (∀ i', m - j ≤ i' → i' < i → f i' = false) ∧ ffE f m j = (i : Nat)
  | 0, _ => .inl ⟨fun i h1 h2 => by omega, rfl⟩
  | j + 1, h => by
    have ih := ff_spec f m j (by omega)
    unfold ffE
    cases e : f (m - (j + 1))
    · rcases ih with ⟨h1, h2⟩ | ⟨i, h1, h2, h3, h4, h5⟩
      · refine .inl ⟨fun i a1 a2 => ?_, h2⟩
        by_cases q : i = m - (j + 1)
        · rw [q]; exact e
        · exact h1 i (by omega) a2
      · refine .inr ⟨i, by omega, h2, h3, fun i' a1 a2 => ?_, h5⟩
        by_cases q : i' = m - (j + 1)
        · rw [q]; exact e
        · exact h4 i' (by omega) a2
    · exact .inr ⟨m - (j + 1), Nat.le_refl _, by omega, e, fun i' a1 a2 => by omega, rfl⟩
theorem ch_ff (l : List Int) (cs : List Cb) (up : List Bool) (D : St → Int) (s : St) : chE l cs up D s = ffE (hitC l cs up D s) cs.length cs.length := by
  unfold chE
  rcases ff_spec (hitC l cs up D s) cs.length cs.length (Nat.le_refl _) with ⟨h1, h2⟩ | ⟨i, h1, h2, h3, h4, h5⟩
  · rw [h2]
    by_cases e : D s < 1
    · rw [if_pos e]
    · rw [if_neg e]
      have : fstS l cs up D s (D s) = none := findSome_none fun j hj => by
        have := h1 j (by omega) hj
        unfold hitC at this
        rw [decide_eq_true (show 0 < D s by omega), Bool.true_and] at this
        cases q : hitS l cs up D s (D s) j
        · rfl
        · rw [q] at this; simp at this
      rw [this]; rfl
  · rw [h5]
    unfold hitC at h3
    rw [Bool.and_eq_true] at h3
    have hp := of_decide_eq_true h3.1
    rw [if_neg (by omega)]
    obtain ⟨t, ht⟩ := Option.isSome_iff_exists.1 h3.2
    have : fstS l cs up D s (D s) = some (i, t) := findSome_at h2 (fun j hj => by
      have := h4 j (by omega) hj
      unfold hitC at this
      rw [decide_eq_true hp, Bool.true_and] at this
      cases q : hitS l cs up D s (D s) j
      · rfl
      · rw [q] at this; simp at this) (by rw [ht]; rfl)
    rw [this]; rfl
theorem updC_same (C : Nat → List Int) (i : Nat) (x : List Int) : updC C i x i = x := if_pos rfl
theorem updC_ne (C : Nat → List Int) {i j : Nat} (h : j ≠ i) (x : List Int) : updC C i x j = C j := if_neg h
def rowsOk (p : Pl) (l : List Int) (up : List Bool) (b : Nat → Bool) (k u : Nat) (C : Nat → List Int) : Prop :=
  ∀ i q, i < p.ns.length → (C (oI b i q)).length = p.ns.length ∧ ∀ j, (j < k ∨ (j = k ∧ i < u)) → (C (oI b i q)).getD j 0 = entE p l up i q j
theorem rows_upd {p : Pl} {l : List Int} {up : List Bool} {b : Nat → Bool} {k u : Nat} {C : Nat → List Int} (h : rowsOk p l up b k u C) {o : Nat} (q : Bool) (ho : oI b u q = o) (v : Int) : rowsOk p l up b k u (updC C o ((C o).set k v)) := by
  subst ho
  intro i r hi
  by_cases e : oI b i r = oI b u q
  · obtain ⟨rfl, rfl⟩ := oI_inj e
    obtain ⟨h1, h2⟩ := h i r hi
    rw [updC_same]
    refine ⟨by rw [List.length_set]; exact h1, fun j hj => ?_⟩
    have hjk : j ≠ k := by omega
    rw [List.getD_eq_getElem?_getD, List.getElem?_set_ne (fun e => hjk e.symm), ← List.getD_eq_getElem?_getD]
    exact h2 j hj
  · rw [updC_ne _ e]; exact h i r hi
theorem rows_next {p : Pl} {l : List Int} {up : List Bool} {b : Nat → Bool} {k u : Nat} {C : Nat → List Int} (h : rowsOk p l up b k u C) (hv : ∀ q, (C (oI b u q)).getD k 0 = entE p l up u q k) : rowsOk p l up b k (u + 1) C := by
  intro i q hi
  obtain ⟨h1, h2⟩ := h i q hi
  refine ⟨h1, fun j hj => ?_⟩
  by_cases e : j = k ∧ i = u
  · rw [e.1, e.2]; exact hv q
  · exact h2 j (by omega)
theorem rows_end {p : Pl} {l : List Int} {up : List Bool} {b : Nat → Bool} {k : Nat} {C : Nat → List Int} (h : rowsOk p l up b k p.ns.length C) : rowsOk p l up b (k + 1) 0 C := by
  intro i q hi
  obtain ⟨h1, h2⟩ := h i q hi
  exact ⟨h1, fun j hj => h2 j (by omega)⟩
theorem rows_row {p : Pl} {l : List Int} {up : List Bool} {b : Nat → Bool} {C : Nat → List Int} (h : rowsOk p l up b p.ns.length 0 C) {i : Nat} (hi : i < p.ns.length) (q : Bool) : C (oI b i q) = rowE p l up i q p.ns.length := by
  obtain ⟨h1, h2⟩ := h i q hi
  apply List.ext_getElem?
  intro j
  by_cases hj : j < p.ns.length
  · have e1 := h2 j (.inl hj)
    have e2 := rowE_get p l up i q hj
    rw [List.getD_eq_getElem?_getD, List.getElem?_eq_getElem (by omega)] at e1
    rw [List.getD_eq_getElem?_getD, List.getElem?_eq_getElem (by rw [rowE_len]; exact hj)] at e2
    rw [List.getElem?_eq_getElem (by omega), List.getElem?_eq_getElem (by rw [rowE_len]; exact hj)]
    simp only [Option.getD_some] at e1 e2
    rw [e1, e2]
  · rw [List.getElem?_eq_none (by omega), List.getElem?_eq_none (by rw [rowE_len]; omega)]
theorem getD_set_self {l : List Int} {i : Nat} {v : Int} (h : i < l.length) : (l.set i v).getD i 0 = v := by
  rw [List.getD_eq_getElem?_getD, List.getElem?_set_self h]; rfl
theorem famN_pushz (z : List Int) (N : Nat) : famN (cF fun _ => z) N ++ [(0, .ints z)] = famN (cF fun _ => z) (N + 1) := famN_push _ N
theorem mkH_set0 (a b vo : Nat × LO) (l : List (Nat × LO)) : (mkH (a :: b :: l)).set 0 vo = mkH (vo :: b :: l) := mkH_set _ 0 _ (by simp)
theorem mkH_set1 (a b vo : Nat × LO) (l : List (Nat × LO)) : (mkH (a :: b :: l)).set 1 vo = mkH (a :: vo :: l) := mkH_set _ 1 _ (by simp)
theorem mkH_setF (a c : Nat × LO) (C : Nat → List Int) {N o : Nat} (ho : o < N) (x : List Int) : (mkH (a :: c :: famN (cF C) N)).set (o + 2) (0, .ints x) = mkH (a :: c :: famN (cF (updC C o x)) N) := by
  rw [mkH_set _ _ _ (by simp [famN_len]; omega)]
  show mkH (a :: c :: (famN (cF C) N).set o (0, .ints x)) = _
  rw [famN_set C ho]
theorem mkH_getF (a c : Nat × LO) (C : Nat → List Int) {N o : Nat} (ho : o < N) : (mkH (a :: c :: famN (cF C) N)).f (o + 2) = (0, .ints (C o)) := famN_get (cF C) ho _
theorem roTo_cF {a c : Nat × LO} {C : Nat → List Int} {n N o : Nat} (ho : o < N) (hl : (C o).length = n) : roTo1 (mkH (a :: c :: famN (cF C) N)) (.sl (o + 2) 0 1 0 n) (.rsl 1 n (intsF (C o))) := by
  refine ⟨rfl, rfl, by simp [mkH, famN_len]; omega, by rw [mkH_getF a c C ho], ?_, fun i hi => ?_⟩
  · rw [mkH_getF a c C ho]; exact ⟨rfl, by omega⟩
  · rw [mkH_getF a c C ho, Nat.zero_add]; exact ⟨rfl, trivial, trivial⟩
theorem EVFM : (∀ (l : List Int) (i : Nat), intsF l i = [.sc (.int .i64 (l.getD i 0))]) ∧ (∀ (F : Nat → Nat × LO) (N : Nat), (famN F N).length = N) ∧ (∀ (z : List Int) (N : Nat), famN (cF fun _ => z) N ++ [(0, .ints z)] = famN (cF fun _ => z) (N + 1)) ∧ (∀ (a b vo : Nat × LO) (l : List (Nat × LO)), (mkH (a :: b :: l)).set 0 vo = mkH (vo :: b :: l)) ∧ (∀ (a b vo : Nat × LO) (l : List (Nat × LO)), (mkH (a :: b :: l)).set 1 vo = mkH (a :: vo :: l)) :=
  ⟨fun _ _ => rfl, famN_len, famN_pushz, mkH_set0, mkH_set1⟩
theorem ev_rMake (p : Pl) (hv : validE p = 0) (l : List Int) (hll : l.length = p.ns.length) (up : List Bool) (hup : up.length = p.cs.length) :
    Ev Tryd.prog 16 [plV p, intsV l, boolsV up] (.rsl 2 p.ns.length (tabF (makeT p l up))) := by
  have hV := valid_of hv
  have h16 := hV.n16
  have h32 := hV.c32
  have h1 := fun tq ht => ev_rDist p hv l hll up hup tq ht
  have h2 := ev_at19 p
  have h3 := ev_Other p
  have h4 := ev_Step l
  unfold plV boolsV intsV at *
  refine ev_fnD Tryd.func16 comp16 (show 3 ≤ Tryd.f16.ntmps by decide) ?_
  unfold cf16 rf16
  simp only [↓EVP0, EVQ0, EVQ1, EVQ2, EVQ3, EVQ4, EVA, EVK, EVF,EVFM, ↓reduceIte, Nat.reduceEqDiff, Nat.reduceAdd, Nat.reduceSub, Nat.reduceMul, Nat.reduceLT, Nat.reduceLeDiff, reduceCtorEq, Int.reduceToNat, Int.reduceLT, Int.reduceLE, Int.reduceAdd, Int.reduceSub, Int.reduceMul, Int.reduceNeg, Int.reduceEq, Nat.reduceMod, forall_eq_or_imp, forall_eq, forall_const, cond_true, cond_false, decide_true, decide_false, true_imp_iff, implies_true, Int.cast_ofNat_Int, forall_eq']
  intro hn
  refine ⟨by unfold mksC; omega, ?_⟩
  refine lwp_for (α := Nat → Bool) p.ns.length (fun _ _ => True) (fun u b => [(1, .rsl 1 l.length (intsF l)), (2, .rsl 1 up.length (boolsF up)), (3, .ptr 0 0 0 0 0), (7, .sc (.int .i64 p.ns.length)), (8, .sl 1 0 2 0 p.ns.length), (9, .sc (.int .i64 u))])
    (fun u b => (0, .box [.rsl 3 p.ns.length (ndsF p.ns), .rsl 6 p.cs.length (cbsF p.cs)]) :: (0, .row 2 p.ns.length (gF b p.ns.length u)) :: famN (cF fun _ => List.replicate p.ns.length 0) (2 * u)) (fun _ => false) trivial ?_ (fun _ _ => Nat.zero_le _) ?_
  · simp only [↓EVP0, EVQ0, EVQ1, EVQ2, EVQ3, EVQ4, EVA, EVK, EVF,EVFM, ↓reduceIte, Nat.reduceEqDiff, Nat.reduceAdd, Nat.reduceSub, Nat.reduceMul, Nat.reduceLT, Nat.reduceLeDiff, reduceCtorEq, Int.reduceToNat, Int.reduceLT, Int.reduceLE, Int.reduceAdd, Int.reduceSub, Int.reduceMul, Int.reduceNeg, Int.reduceEq, Nat.reduceMod, forall_eq_or_imp, forall_eq, forall_const, cond_true, cond_false, decide_true, decide_false, true_imp_iff, implies_true, Int.cast_ofNat_Int, forall_eq']
    exact ⟨rfl, gF_all (by omega), trivial⟩
  intro u b hu _
  unfold lb16_3
  simp only [↓EVP0, EVQ0, EVQ1, EVQ2, EVQ3, EVQ4, EVA, EVK, EVF,EVFM, ↓reduceIte, Nat.reduceEqDiff, Nat.reduceAdd, Nat.reduceSub, Nat.reduceMul, Nat.reduceLT, Nat.reduceLeDiff, reduceCtorEq, Int.reduceToNat, Int.reduceLT, Int.reduceLE, Int.reduceAdd, Int.reduceSub, Int.reduceMul, Int.reduceNeg, Int.reduceEq, Nat.reduceMod, forall_eq_or_imp, forall_eq, forall_const, cond_true, cond_false, decide_true, decide_false, true_imp_iff, implies_true, Int.cast_ofNat_Int, forall_eq']
  refine ⟨fun hg => ?_, fun hg => ?_⟩
  · have hu2 : u < p.ns.length := by have := of_decide_eq_true hg; omega
    have hgl := gF_len b p.ns.length u u
    have hm : mksC (p.ns.length : Int) (p.ns.length : Int) 8 := by unfold mksC; omega
    have oA : oI (updB b u false) u false = 2 * u ∧ oI (updB b u false) u true = 2 * u + 1 := by unfold oI updB; simp
    have oB : oI (updB b u true) u false = 2 * u + 1 ∧ oI (updB b u true) u true = 2 * u := by unfold oI updB; simp
    refine ⟨?_, ?_, ?_⟩ <;> refine ⟨hm, hm, ⟨by omega, by omega, by omega⟩, by omega, ⟨⟨hu2, hgl⟩, hu2, by rw [List.length_set]; exact hgl⟩, by unfold In64; omega, hu2, ?_⟩
    · exact ⟨updB b u false, by omega, ⟨by omega, by omega⟩, gF_set (by omega) (by omega), gF_all (by omega), wk_fam⟩
    · exact ⟨updB b u false, by omega, ⟨by omega, by omega⟩, gF_set (by omega) (by omega), gF_all (by omega), wk_fam⟩
    · exact ⟨updB b u true, by omega, ⟨by omega, by omega⟩, gF_set (by omega) (by omega), gF_all (by omega), wk_fam⟩
  have hu2 : u = p.ns.length := by have := of_decide_eq_false hg; omega
  subst hu2
  have hgF : ∀ i, i < p.ns.length → gF b p.ns.length p.ns.length i = [.sl (oI b i false + 2) 0 1 0 p.ns.length, .sl (oI b i true + 2) 0 1 0 p.ns.length] := fun i hi => if_pos hi
  have hgA := gF_all (b := b) (n := p.ns.length) (u := p.ns.length) (N := 2 * p.ns.length + 2) (Nat.le_refl _)
  generalize gF b p.ns.length p.ns.length = G at *
  refine lwp_for (α := Nat → List Int) p.ns.length (fun tq C => rowsOk p l up b tq 0 C) (fun tq C => [(1, .rsl 1 l.length (intsF l)), (2, .rsl 1 up.length (boolsF up)), (3, .ptr 0 0 0 0 0), (7, .sc (.int .i64 p.ns.length)), (8, .sl 1 0 2 0 p.ns.length), (10, .sc (.int .i64 tq))])
    (fun tq C => (0, .box [.rsl 3 p.ns.length (ndsF p.ns), .rsl 6 p.cs.length (cbsF p.cs)]) :: (0, .row 2 p.ns.length G) :: famN (cF C) (2 * p.ns.length)) (fun _ => List.replicate p.ns.length 0) (fun i q hi => ⟨by simp, fun j hj => by omega⟩) ?_ (fun _ _ => Nat.zero_le _) ?_
  · simp only [↓EVP0, EVQ0, EVQ1, EVQ2, EVQ3, EVQ4, EVA, EVK, EVF,EVFM, ↓reduceIte, Nat.reduceEqDiff, Nat.reduceAdd, Nat.reduceSub, Nat.reduceMul, Nat.reduceLT, Nat.reduceLeDiff, reduceCtorEq, Int.reduceToNat, Int.reduceLT, Int.reduceLE, Int.reduceAdd, Int.reduceSub, Int.reduceMul, Int.reduceNeg, Int.reduceEq, Nat.reduceMod, forall_eq_or_imp, forall_eq, forall_const, cond_true, cond_false, decide_true, decide_false, true_imp_iff, implies_true, Int.cast_ofNat_Int, forall_eq']
    exact ⟨Nat.le_refl _, ⟨by omega, by omega⟩, hgA, wk_fam⟩
  intro tq C hto hC
  unfold lb16_2
  simp only [↓EVP0, EVQ0, EVQ1, EVQ2, EVQ3, EVQ4, EVA, EVK, EVF,EVFM, ↓reduceIte, Nat.reduceEqDiff, Nat.reduceAdd, Nat.reduceSub, Nat.reduceMul, Nat.reduceLT, Nat.reduceLeDiff, reduceCtorEq, Int.reduceToNat, Int.reduceLT, Int.reduceLE, Int.reduceAdd, Int.reduceSub, Int.reduceMul, Int.reduceNeg, Int.reduceEq, Nat.reduceMod, forall_eq_or_imp, forall_eq, forall_const, cond_true, cond_false, decide_true, decide_false, true_imp_iff, implies_true, Int.cast_ofNat_Int, forall_eq']
  refine ⟨fun hg2 => ?_, fun hg2 => ?_⟩
  rotate_left
  · have hto2 : tq = p.ns.length := by have := of_decide_eq_false hg2; omega
    unfold finD
    simp only [↓EVP0, EVQ0, EVQ1, EVQ2, EVQ3, EVQ4, EVA, EVK, EVF,EVFM, ↓reduceIte, Nat.reduceEqDiff, Nat.reduceAdd, Nat.reduceSub, Nat.reduceMul, Nat.reduceLT, Nat.reduceLeDiff, reduceCtorEq, Int.reduceToNat, Int.reduceLT, Int.reduceLE, Int.reduceAdd, Int.reduceSub, Int.reduceMul, Int.reduceNeg, Int.reduceEq, Nat.reduceMod, forall_eq_or_imp, forall_eq, forall_const, cond_true, cond_false, decide_true, decide_false, true_imp_iff, implies_true, Int.cast_ofNat_Int, forall_eq']
    subst hto2
    have hml := makeT_len p l up
    refine ⟨rfl, rfl, by simp [mkH, famN_len], rfl, ⟨rfl, by omega, fun i hi => ?_⟩, fun i hi => ?_⟩
    · rw [Nat.zero_add, hgF i hi]; rfl
    rw [Nat.zero_add]
    show roToL _ (G i) (tabF (makeT p l up) i)
    have q0 := rows_row hC hi false
    have q1 := rows_row hC hi true
    have l0 := oI_lt (b := b) (q := false) hi
    have l1 := oI_lt (b := b) (q := true) hi
    unfold tabF intsV
    rw [hgF i hi, makeT_get p l up hi]
    simp only
    rw [← q0, ← q1, (hC i false hi).1, (hC i true hi).1]
    exact ⟨roTo_cF l0 (hC i false hi).1, roTo_cF l1 (hC i true hi).1, trivial⟩
  have hto2 : tq < p.ns.length := by have := of_decide_eq_true hg2; omega
  refine ⟨by omega, ?_⟩
  have htx : inN p.ns.length (tq : Int) := by unfold inN; omega
  have hD := h1 tq htx
  have hDF := d_facts (l := l) (cs := p.cs) (up := up) (show p.ns.length ≤ 100 by omega) hV.cab htx
  have hRl := dL_len p.ns.length l p.cs up tq false p.ns.length
  have hFl := dL_len p.ns.length l p.cs up tq true p.ns.length
  have hRg : ∀ y, inN p.ns.length y → dS p.ns.length l p.cs up (tq : Int) (y, false) = (dL p.ns.length l p.cs up (tq : Int) false p.ns.length).getD y.toNat 0 := fun y hy => dL_get19 hy
  have hFg : ∀ y, inN p.ns.length y → dS p.ns.length l p.cs up (tq : Int) (y, true) = (dL p.ns.length l p.cs up (tq : Int) true p.ns.length).getD y.toNat 0 := fun y hy => dL_get19 hy
  generalize dL p.ns.length l p.cs up tq false p.ns.length = R at *
  generalize dL p.ns.length l p.cs up tq true p.ns.length = F at *
  rw [hRl, hFl] at hD
  refine callK_ro (hD) ?_ ?_
  · simp only [↓EVP0, EVQ0, EVQ1, EVQ2, EVQ3, EVQ4, EVA, EVK, EVF,EVFM, ↓reduceIte, Nat.reduceEqDiff, Nat.reduceAdd, Nat.reduceSub, Nat.reduceMul, Nat.reduceLT, Nat.reduceLeDiff, reduceCtorEq, Int.reduceToNat, Int.reduceLT, Int.reduceLE, Int.reduceAdd, Int.reduceSub, Int.reduceMul, Int.reduceNeg, Int.reduceEq, Nat.reduceMod, forall_eq_or_imp, forall_eq, forall_const, cond_true, cond_false, decide_true, decide_false, true_imp_iff, implies_true, Int.cast_ofNat_Int, forall_eq']
  simp only [↓EVP0, EVQ0, EVQ1, EVQ2, EVQ3, EVQ4, EVA, EVK, EVF,EVFM, ↓reduceIte, Nat.reduceEqDiff, Nat.reduceAdd, Nat.reduceSub, Nat.reduceMul, Nat.reduceLT, Nat.reduceLeDiff, reduceCtorEq, Int.reduceToNat, Int.reduceLT, Int.reduceLE, Int.reduceAdd, Int.reduceSub, Int.reduceMul, Int.reduceNeg, Int.reduceEq, Nat.reduceMod, forall_eq_or_imp, forall_eq, forall_const, cond_true, cond_false, decide_true, decide_false, true_imp_iff, implies_true, Int.cast_ofNat_Int, forall_eq']
  refine lwp_for (α := Nat → List Int) p.ns.length (fun u C => rowsOk p l up b tq u C) (fun u C => [(1, .rsl 1 l.length (intsF l)), (2, .rsl 1 up.length (boolsF up)), (3, .ptr 0 0 0 0 0), (7, .sc (.int .i64 p.ns.length)), (8, .sl 1 0 2 0 p.ns.length), (10, .sc (.int .i64 tq)), (11, .rsl 1 p.ns.length (intsF R)), (12, .rsl 1 p.ns.length (intsF F)), (13, .sc (.int .i64 u))])
    (fun u C => (0, .box [.rsl 3 p.ns.length (ndsF p.ns), .rsl 6 p.cs.length (cbsF p.cs)]) :: (0, .row 2 p.ns.length G) :: famN (cF C) (2 * p.ns.length)) C hC ?_ (fun _ _ => Nat.zero_le _) ?_
  · simp only [↓EVP0, EVQ0, EVQ1, EVQ2, EVQ3, EVQ4, EVA, EVK, EVF,EVFM, ↓reduceIte, Nat.reduceEqDiff, Nat.reduceAdd, Nat.reduceSub, Nat.reduceMul, Nat.reduceLT, Nat.reduceLeDiff, reduceCtorEq, Int.reduceToNat, Int.reduceLT, Int.reduceLE, Int.reduceAdd, Int.reduceSub, Int.reduceMul, Int.reduceNeg, Int.reduceEq, Nat.reduceMod, forall_eq_or_imp, forall_eq, forall_const, cond_true, cond_false, decide_true, decide_false, true_imp_iff, implies_true, Int.cast_ofNat_Int, forall_eq']
    exact ⟨Nat.le_refl _, ⟨by omega, by omega⟩, hgA, wk_fam⟩
  clear hC C
  intro u C hu hC
  unfold lb16_1
  simp only [↓EVP0, EVQ0, EVQ1, EVQ2, EVQ3, EVQ4, EVA, EVK, EVF,EVFM, ↓reduceIte, Nat.reduceEqDiff, Nat.reduceAdd, Nat.reduceSub, Nat.reduceMul, Nat.reduceLT, Nat.reduceLeDiff, reduceCtorEq, Int.reduceToNat, Int.reduceLT, Int.reduceLE, Int.reduceAdd, Int.reduceSub, Int.reduceMul, Int.reduceNeg, Int.reduceEq, Nat.reduceMod, forall_eq_or_imp, forall_eq, forall_const, cond_true, cond_false, decide_true, decide_false, true_imp_iff, implies_true, Int.cast_ofNat_Int, forall_eq']
  refine ⟨fun hg3 => ?_, fun hg3 => ?_⟩
  rotate_left
  · have hu2 : u = p.ns.length := by have := of_decide_eq_false hg3; omega
    subst hu2
    exact ⟨by unfold In64; omega, hto2, C, rows_end hC, Nat.le_refl _, ⟨by omega, by omega⟩, hgA, wk_fam⟩
  have hu2 : u < p.ns.length := by have := of_decide_eq_true hg3; omega
  have hGu := hgF u hu2
  have ho0 := oI_lt (b := b) (q := false) hu2
  have ho1 := oI_lt (b := b) (q := true) hu2
  have hne : oI b u false ≠ oI b u true := fun h => by have := (oI_inj h).2; simp at this
  have hC0 := hC u false hu2
  have hC1 := hC u true hu2
  have hoc : ∀ i q, i < p.ns.length → i ≠ u → oI b i q ≠ oI b u false ∧ oI b i q ≠ oI b u true := fun i q _ hne => ⟨fun h => hne (oI_inj h).1, fun h => hne (oI_inj h).1⟩
  have hou : ∀ q, oI b u q = bif q then oI b u true else oI b u false := fun q => by cases q <;> rfl
  generalize oI b u false = o0 at *
  generalize oI b u true = o1 at *
  have hg0 := fun (a c : Nat × LO) (C : Nat → List Int) => mkH_getF a c C ho0
  have hg1 := fun (a c : Nat × LO) (C : Nat → List Int) => mkH_getF a c C ho1
  have hs0 := fun (a c : Nat × LO) (C : Nat → List Int) => mkH_setF a c C ho0
  have hs1 := fun (a c : Nat × LO) (C : Nat → List Int) => mkH_setF a c C ho1
  have hu00 := fun (C : Nat → List Int) x => updC_same C o0 x
  have hu11 := fun (C : Nat → List Int) x => updC_same C o1 x
  have hu01 := fun (C : Nat → List Int) x => updC_ne C (i := o0) (j := o1) (fun h => hne h.symm) x
  have hu10 := fun (C : Nat → List Int) x => updC_ne C (i := o1) (j := o0) hne x
  simp only [hGu, hg0, hg1, hs0, hs1, hu00, hu11, hu01, hu10, ↓EVP0, EVQ0, EVQ1, EVQ2, EVQ3, EVQ4, EVA, EVK, EVF,EVFM, ↓reduceIte, Nat.reduceEqDiff, Nat.reduceAdd, Nat.reduceSub, Nat.reduceMul, Nat.reduceLT, Nat.reduceLeDiff, reduceCtorEq, Int.reduceToNat, Int.reduceLT, Int.reduceLE, Int.reduceAdd, Int.reduceSub, Int.reduceMul, Int.reduceNeg, Int.reduceEq, Nat.reduceMod, forall_eq_or_imp, forall_eq, forall_const, cond_true, cond_false, decide_true, decide_false, true_imp_iff, implies_true, Int.cast_ofNat_Int, forall_eq']
  have hRu := hRg u (by unfold inN; omega)
  have hFu := hFg u (by unfold inN; omega)
  rw [Int.toNat_natCast] at hRu hFu
  have e0 : oI b u false = o0 := hou false
  have e1 : oI b u true = o1 := hou true
  refine ⟨⟨by omega, by omega, by omega⟩, ⟨by omega, by decide, hu2⟩, ⟨by omega, by omega, by omega⟩, ⟨by omega, by decide, hu2⟩, ⟨by omega, by omega, by omega⟩, by omega, by rw [hC0.1]; exact hto2, ⟨by omega, by omega, by omega⟩, by omega, by rw [hC1.1]; exact hto2, by omega, fun _ => ⟨by unfold In64; omega, ?_⟩⟩
  have hCA := rows_upd (rows_upd hC false e0 (-1)) true e1 (-1)
  rw [hu01] at hCA
  have hA0 : (updC (updC C o0 ((C o0).set tq (-1))) o1 ((C o1).set tq (-1)) o0).getD tq 0 = -1 := by
    rw [hu10, hu00]; exact getD_set_self (by rw [hC0.1]; exact hto2)
  have hA1 : (updC (updC C o0 ((C o0).set tq (-1))) o1 ((C o1).set tq (-1)) o1).getD tq 0 = -1 := by
    rw [hu11]; exact getD_set_self (by rw [hC1.1]; exact hto2)
  generalize updC (updC C o0 ((C o0).set tq (-1))) o1 ((C o1).set tq (-1)) = CA at *
  clear hC hC0 hC1 C
  generalize hDE : dS p.ns.length l p.cs up tq = D at *
  refine lwp_for (α := Nat → List Int) p.cs.length (fun j C => rowsOk p l up b tq u C ∧ (C o0).getD tq 0 = ffE (hitC l p.cs up D ((u : Int), false)) p.cs.length j ∧ (C o1).getD tq 0 = ffE (hitC l p.cs up D ((u : Int), true)) p.cs.length j)
    (fun j C => [(1, .rsl 1 l.length (intsF l)), (2, .rsl 1 up.length (boolsF up)), (3, .ptr 0 0 0 0 0), (7, .sc (.int .i64 p.ns.length)), (8, .sl 1 0 2 0 p.ns.length), (10, .sc (.int .i64 tq)), (11, .rsl 1 p.ns.length (intsF R)), (12, .rsl 1 p.ns.length (intsF F)), (13, .sc (.int .i64 u)), (14, .sc (.int .i64 ((p.cs.length : Int) - 1 - j)))])
    (fun j C => (0, .box [.rsl 3 p.ns.length (ndsF p.ns), .rsl 6 p.cs.length (cbsF p.cs)]) :: (0, .row 2 p.ns.length G) :: famN (cF C) (2 * p.ns.length)) CA ⟨hCA, hA0, hA1⟩ ?_ (fun _ _ => Nat.zero_le _) ?_
  · simp only [↓EVP0, EVQ0, EVQ1, EVQ2, EVQ3, EVQ4, EVA, EVK, EVF,EVFM, ↓reduceIte, Nat.reduceEqDiff, Nat.reduceAdd, Nat.reduceSub, Nat.reduceMul, Nat.reduceLT, Nat.reduceLeDiff, reduceCtorEq, Int.reduceToNat, Int.reduceLT, Int.reduceLE, Int.reduceAdd, Int.reduceSub, Int.reduceMul, Int.reduceNeg, Int.reduceEq, Nat.reduceMod, forall_eq_or_imp, forall_eq, forall_const, cond_true, cond_false, decide_true, decide_false, true_imp_iff, implies_true, Int.cast_ofNat_Int, forall_eq']
    exact ⟨Nat.le_refl _, ⟨by omega, by omega, by omega⟩, hgA, wk_fam⟩
  clear hCA hA0 hA1 CA
  rintro j C hj ⟨hC, hv0, hv1⟩
  have hC0 := hC u false hu2
  have hC1 := hC u true hu2
  rw [e0] at hC0
  rw [e1] at hC1
  unfold lb16_0
  simp only [↓EVP0, EVQ0, EVQ1, EVQ2, EVQ3, EVQ4, EVA, EVK, EVF,EVFM, ↓reduceIte, Nat.reduceEqDiff, Nat.reduceAdd, Nat.reduceSub, Nat.reduceMul, Nat.reduceLT, Nat.reduceLeDiff, reduceCtorEq, Int.reduceToNat, Int.reduceLT, Int.reduceLE, Int.reduceAdd, Int.reduceSub, Int.reduceMul, Int.reduceNeg, Int.reduceEq, Nat.reduceMod, forall_eq_or_imp, forall_eq, forall_const, cond_true, cond_false, decide_true, decide_false, true_imp_iff, implies_true, Int.cast_ofNat_Int, forall_eq']
  refine ⟨fun hg4 => ?_, fun hg4 => ?_⟩
  rotate_left
  · have hj2 : j = p.cs.length := by have := of_decide_eq_false hg4; omega
    subst hj2
    have w0 : (C o0).getD tq 0 = chE l p.cs up D ((u : Int), false) := by rw [hv0, ← ch_ff]
    have w1 : (C o1).getD tq 0 = chE l p.cs up D ((u : Int), true) := by rw [hv1, ← ch_ff]
    simp only [hGu, hg0, hg1, hs0, hs1, hu00, hu11, hu01, hu10, ↓EVP0, EVQ0, EVQ1, EVQ2, EVQ3, EVQ4, EVA, EVK, EVF,EVFM, ↓reduceIte, Nat.reduceEqDiff, Nat.reduceAdd, Nat.reduceSub, Nat.reduceMul, Nat.reduceLT, Nat.reduceLeDiff, reduceCtorEq, Int.reduceToNat, Int.reduceLT, Int.reduceLE, Int.reduceAdd, Int.reduceSub, Int.reduceMul, Int.reduceNeg, Int.reduceEq, Nat.reduceMod, forall_eq_or_imp, forall_eq, forall_const, cond_true, cond_false, decide_true, decide_false, true_imp_iff, implies_true, Int.cast_ofNat_Int, forall_eq']
    refine ⟨fun hg5 => ?_, fun hg5 => ?_⟩
    · have hut : u = tq := by have := of_decide_eq_true hg5; omega
      have hl0 := hC0.1
      have hl1 := hC1.1
      have hr := rows_upd (rows_upd hC false e0 (-2)) true e1 (-2)
      rw [hu01] at hr
      refine ⟨⟨by omega, by omega, by omega⟩, ⟨by omega, by decide, hu2⟩, ⟨by omega, by omega, by omega⟩, ⟨by omega, by decide, hu2⟩, ⟨by omega, by omega, by omega⟩, by omega, by omega, ⟨by omega, by omega, by omega⟩, by omega, by omega, by unfold In64; omega, hu2, _, rows_next hr (fun q => ?_), Nat.le_refl _, ⟨by omega, by omega⟩, hgA, wk_fam⟩
      unfold entE
      rw [if_pos hut]
      cases q
      · rw [e0, hu10, hu00]; exact getD_set_self (by omega)
      · rw [e1, hu11]; exact getD_set_self (by omega)
    · have hut : u ≠ tq := by intro h; rw [decide_eq_true (show (u : Int) = tq by omega)] at hg5; simp at hg5
      refine ⟨by unfold In64; omega, hu2, C, rows_next hC (fun q => ?_), Nat.le_refl _, ⟨by omega, by omega⟩, hgA, wk_fam⟩
      unfold entE
      rw [if_neg hut, hDE]
      cases q
      · rw [e0]; exact w0
      · rw [e1]; exact w1
  have hj2 : j < p.cs.length := by have := of_decide_eq_true hg4; omega
  obtain ⟨ci, hci, hcn⟩ : ∃ ci : Nat, (p.cs.length : Int) - 1 - (j : Int) = (ci : Int) ∧ p.cs.length - (j + 1) = ci := ⟨p.cs.length - (j + 1), by omega, rfl⟩
  have hci2 : ci < p.cs.length := by omega
  have hff := fun f => show ffE f p.cs.length (j + 1) = bif f ci then (ci : Int) else ffE f p.cs.length j by rw [← hcn]; rfl
  rw [hci]
  simp only [Int.toNat_natCast]
  have h2' := h2 ci u (by omega) (by omega)
  rw [Int.toNat_natCast] at h2'
  refine ⟨⟨by omega, by omega⟩, by omega, ?_⟩
  (refine lops_ge_imp ?_; simp only [↓EVP0, EVQ0, EVQ1, EVQ2, EVQ3, EVQ4, EVA, EVK, EVF,EVFM, ↓reduceIte, Nat.reduceEqDiff, Nat.reduceAdd, Nat.reduceSub, Nat.reduceMul, Nat.reduceLT, Nat.reduceLeDiff, reduceCtorEq, Int.reduceToNat, Int.reduceLT, Int.reduceLE, Int.reduceAdd, Int.reduceSub, Int.reduceMul, Int.reduceNeg, Int.reduceEq, Nat.reduceMod, forall_eq_or_imp, forall_eq, forall_const, cond_true, cond_false, decide_true, decide_false, true_imp_iff, implies_true, Int.cast_ofNat_Int, forall_eq'])
  refine gCallK_ro _ (fun _ => h2') (fun _ => ?_) ?_
  · simp only [↓EVP0, EVQ0, EVQ1, EVQ2, EVQ3, EVQ4, EVA, EVK, EVF,EVFM, ↓reduceIte, Nat.reduceEqDiff, Nat.reduceAdd, Nat.reduceSub, Nat.reduceMul, Nat.reduceLT, Nat.reduceLeDiff, reduceCtorEq, Int.reduceToNat, Int.reduceLT, Int.reduceLE, Int.reduceAdd, Int.reduceSub, Int.reduceMul, Int.reduceNeg, Int.reduceEq, Nat.reduceMod, forall_eq_or_imp, forall_eq, forall_const, cond_true, cond_false, decide_true, decide_false, true_imp_iff, implies_true, Int.cast_ofNat_Int, forall_eq']
  simp only [↓EVP0, EVQ0, EVQ1, EVQ2, EVQ3, EVQ4, EVA, EVK, EVF,EVFM, ↓reduceIte, Nat.reduceEqDiff, Nat.reduceAdd, Nat.reduceSub, Nat.reduceMul, Nat.reduceLT, Nat.reduceLeDiff, reduceCtorEq, Int.reduceToNat, Int.reduceLT, Int.reduceLE, Int.reduceAdd, Int.reduceSub, Int.reduceMul, Int.reduceNeg, Int.reduceEq, Nat.reduceMod, forall_eq_or_imp, forall_eq, forall_const, cond_true, cond_false, decide_true, decide_false, true_imp_iff, implies_true, Int.cast_ofNat_Int, forall_eq']
  have hcab := hV.cab _ (getD_mem default hci2)
  have ho := other_acr (c := p.cs.getD ci default) u hcab.1.1 hcab.2.1
  have hin := fun h => acr_in hv (i := (ci : Int)) (x := u) ⟨by omega, by omega⟩ h
  have hneq := fun h => acr_ne hv (i := (ci : Int)) (x := u) ⟨by omega, by omega⟩ h
  simp only [Int.toNat_natCast] at hin hneq
  have hH : ∀ q, hitC l p.cs up D ((u : Int), q) ci = (decide (0 < D ((u : Int), q)) && (hitQ l (up.getD ci false) D ((u : Int), q) (D ((u : Int), q)) (acrE (p.cs.getD ci default) u)).isSome) := fun q => rfl
  have h3' := h3 ci u (by omega) (by omega)
  rw [Int.toNat_natCast, ho] at h3'
  generalize acrE (p.cs.getD ci default) u = x at *
  obtain ⟨v, o⟩ := x
  simp only at hin hneq hH h3' ⊢
  have hskip : hitC l p.cs up D ((u : Int), false) ci = false → hitC l p.cs up D ((u : Int), true) ci = false → rowsOk p l up b tq u C ∧ (C o0).getD tq 0 = ffE (hitC l p.cs up D ((u : Int), false)) p.cs.length (j + 1) ∧ (C o1).getD tq 0 = ffE (hitC l p.cs up D ((u : Int), true)) p.cs.length (j + 1) := fun a0 a1 => ⟨hC, by rw [hff, a0]; exact hv0, by rw [hff, a1]; exact hv1⟩
  refine ⟨fun hg5 => ?_, fun hg5 => ?_⟩
  · have hno : ∀ q, hitC l p.cs up D ((u : Int), q) ci = false := by
      intro q
      rw [hH q]
      revert hg5
      unfold hitQ
      cases up.getD ci false <;> cases o <;> simp
    exact ⟨by unfold In64; omega, hj2, C, hskip (hno false) (hno true), Nat.le_refl _, ⟨by omega, by omega, by omega⟩, hgA, wk_fam⟩
  have hup1 : up.getD ci false = true := by
    revert hg5
    cases up.getD ci false <;> simp
  have ho1' : o = true := by
    revert hg5
    cases up.getD ci false <;> cases o <;> simp
  subst ho1'
  rw [hup1] at hH
  have hvi := hin rfl
  have hvi' := hvi
  unfold inN at hvi'
  rw [if_pos rfl] at h3'
  refine ⟨by omega, ?_⟩
  refine callK_ro (h3') ?_ ?_
  · simp only [↓EVP0, EVQ0, EVQ1, EVQ2, EVQ3, EVQ4, EVA, EVK, EVF,EVFM, ↓reduceIte, Nat.reduceEqDiff, Nat.reduceAdd, Nat.reduceSub, Nat.reduceMul, Nat.reduceLT, Nat.reduceLeDiff, reduceCtorEq, Int.reduceToNat, Int.reduceLT, Int.reduceLE, Int.reduceAdd, Int.reduceSub, Int.reduceMul, Int.reduceNeg, Int.reduceEq, Nat.reduceMod, forall_eq_or_imp, forall_eq, forall_const, cond_true, cond_false, decide_true, decide_false, true_imp_iff, implies_true, Int.cast_ofNat_Int, forall_eq']
  simp only [↓EVP0, EVQ0, EVQ1, EVQ2, EVQ3, EVQ4, EVA, EVK, EVF,EVFM, ↓reduceIte, Nat.reduceEqDiff, Nat.reduceAdd, Nat.reduceSub, Nat.reduceMul, Nat.reduceLT, Nat.reduceLeDiff, reduceCtorEq, Int.reduceToNat, Int.reduceLT, Int.reduceLE, Int.reduceAdd, Int.reduceSub, Int.reduceMul, Int.reduceNeg, Int.reduceEq, Nat.reduceMod, forall_eq_or_imp, forall_eq, forall_const, cond_true, cond_false, decide_true, decide_false, true_imp_iff, implies_true, Int.cast_ofNat_Int, forall_eq']
  have h4' := h4 u v
  refine callK_ro (h4') ?_ ?_
  · simp only [↓EVP0, EVQ0, EVQ1, EVQ2, EVQ3, EVQ4, EVA, EVK, EVF,EVFM, ↓reduceIte, Nat.reduceEqDiff, Nat.reduceAdd, Nat.reduceSub, Nat.reduceMul, Nat.reduceLT, Nat.reduceLeDiff, reduceCtorEq, Int.reduceToNat, Int.reduceLT, Int.reduceLE, Int.reduceAdd, Int.reduceSub, Int.reduceMul, Int.reduceNeg, Int.reduceEq, Nat.reduceMod, forall_eq_or_imp, forall_eq, forall_const, cond_true, cond_false, decide_true, decide_false, true_imp_iff, implies_true, Int.cast_ofNat_Int, forall_eq']
  simp only [↓EVP0, EVQ0, EVQ1, EVQ2, EVQ3, EVQ4, EVA, EVK, EVF,EVFM, ↓reduceIte, Nat.reduceEqDiff, Nat.reduceAdd, Nat.reduceSub, Nat.reduceMul, Nat.reduceLT, Nat.reduceLeDiff, reduceCtorEq, Int.reduceToNat, Int.reduceLT, Int.reduceLE, Int.reduceAdd, Int.reduceSub, Int.reduceMul, Int.reduceNeg, Int.reduceEq, Nat.reduceMod, forall_eq_or_imp, forall_eq, forall_const, cond_true, cond_false, decide_true, decide_false, true_imp_iff, implies_true, Int.cast_ofNat_Int, forall_eq']
  have hE : ∀ q, hitC l p.cs up D ((u : Int), q) ci = (decide (0 < D ((u : Int), q)) && (bif (bif (bif decide (stpE l u v = 1) then !q else false) then decide (D (v, false) = D ((u : Int), q) - 1) else false) then true else (bif decide (stpE l u v = 2) then decide (D (v, true) = D ((u : Int), q) - 1) else false))) := by
    intro q
    rw [hH q]
    by_cases hp : 0 < D ((u : Int), q)
    · rw [decide_eq_true hp, Bool.true_and, Bool.true_and, hit_code (l := l) hll hDF hp (by unfold inN; omega) hvi (fun h => hneq rfl h.symm) (hDF.lvl ((u : Int), q) (by omega))]
      split
      · rename_i hx; rw [hx]; rfl
      · rename_i hx; rw [Bool.not_eq_true] at hx; rw [hx]; rfl
    · rw [decide_eq_false hp]; rfl
  have hE0 := hE false
  have hE1 := hE true
  rw [hRu, hRg v hvi, hFg v hvi] at hE0
  rw [hFu, hRg v hvi, hFg v hvi] at hE1
  have hRb : -1 ≤ R.getD u 0 ∧ R.getD u 0 ≤ 1000 := by rw [← hRu]; rcases hDF.low ((u : Int), false) with h | h <;> omega
  have hFb : -1 ≤ F.getD u 0 ∧ F.getD u 0 ≤ 1000 := by rw [← hFu]; rcases hDF.low ((u : Int), true) with h | h <;> omega
  generalize R.getD u 0 = Ru at *
  generalize F.getD u 0 = Fu at *
  generalize R.getD v.toNat 0 = Rw at *
  generalize F.getD v.toNat 0 = Fw at *
  have hst : (decide (stpE l u v = 1) = true ∧ decide (stpE l u v = 2) = false) ∨ (decide (stpE l u v = 1) = false ∧ decide (stpE l u v = 2) = true) ∨ (decide (stpE l u v = 1) = false ∧ decide (stpE l u v = 2) = false) := by
    by_cases a : stpE l u v = 1
    · exact .inl ⟨decide_eq_true a, decide_eq_false (by omega)⟩
    · by_cases b : stpE l u v = 2
      · exact .inr (.inl ⟨decide_eq_false a, decide_eq_true b⟩)
      · exact .inr (.inr ⟨decide_eq_false a, decide_eq_false b⟩)
  have hset0 : rowsOk p l up b tq u (updC C o0 ((C o0).set tq ci)) := rows_upd hC false e0 ci
  have hset1 := fun (C : Nat → List Int) (hC : rowsOk p l up b tq u C) => rows_upd hC true e1 ci
  have hl0 := hC0.1
  have hl1 := hC1.1
  have hgs : ∀ (xs : List Int), xs.length = p.ns.length → (xs.set tq (ci : Int)).getD tq 0 = ci := fun xs h => getD_set_self (by omega)
  rcases hst with ⟨d1, d2⟩ | ⟨d1, d2⟩ | ⟨d1, d2⟩ <;> rw [d1, d2] at hE0 hE1 <;> simp only [d1, d2, hGu, hg0, hg1, hs0, hs1, hu00, hu11, hu01, hu10, ↓EVP0, EVQ0, EVQ1, EVQ2, EVQ3, EVQ4, EVA, EVK, EVF,EVFM, ↓reduceIte, Nat.reduceEqDiff, Nat.reduceAdd, Nat.reduceSub, Nat.reduceMul, Nat.reduceLT, Nat.reduceLeDiff, reduceCtorEq, Int.reduceToNat, Int.reduceLT, Int.reduceLE, Int.reduceAdd, Int.reduceSub, Int.reduceMul, Int.reduceNeg, Int.reduceEq, Nat.reduceMod, forall_eq_or_imp, forall_eq, forall_const, cond_true, cond_false, decide_true, decide_false, true_imp_iff, implies_true, Int.cast_ofNat_Int, forall_eq'] <;> simp only [cond_true, cond_false, Bool.not_false, Bool.not_true] at hE0 hE1
  · refine ⟨⟨by omega, by omega⟩, fun _ => hvi', fun _ => ⟨by omega, by omega⟩, fun _ => by unfold In64; omega, fun k => ?_, fun k => ?_⟩
    · have a0 : hitC l p.cs up D ((u : Int), false) ci = true := by
        rw [hE0]; revert k
        cases decide (0 < Ru) <;> cases decide (Rw = Ru - 1) <;> simp
      have a1 : hitC l p.cs up D ((u : Int), true) ci = false := by
        rw [hE1]; cases decide (0 < Fu) <;> rfl
      refine ⟨⟨by omega, by omega, by omega⟩, ⟨by omega, by decide, hu2⟩, ⟨by omega, by omega, by omega⟩, by omega, by omega, by unfold In64; omega, hj2, _, ⟨hset0, ?_, ?_⟩, Nat.le_refl _, ⟨by omega, by omega, by omega⟩, hgA, wk_fam⟩
      · rw [hff, a0, hu00]; exact hgs _ hl0
      · rw [hff, a1, hu01]; exact hv1
    · have a0 : hitC l p.cs up D ((u : Int), false) ci = false := by
        rw [hE0]; revert k
        cases decide (0 < Ru) <;> cases decide (Rw = Ru - 1) <;> simp
      have a1 : hitC l p.cs up D ((u : Int), true) ci = false := by
        rw [hE1]; cases decide (0 < Fu) <;> rfl
      exact ⟨by unfold In64; omega, hj2, C, hskip a0 a1, Nat.le_refl _, ⟨by omega, by omega, by omega⟩, hgA, wk_fam⟩
  · refine ⟨⟨by omega, by omega⟩, fun _ => hvi', fun _ => ⟨by omega, by omega⟩, fun _ => by unfold In64; omega, fun k => ?_, fun k => ?_⟩
    · have a0 : hitC l p.cs up D ((u : Int), false) ci = true := by
        rw [hE0]; revert k
        cases decide (0 < Ru) <;> cases decide (Fw = Ru - 1) <;> simp
      refine ⟨⟨by omega, by omega, by omega⟩, ⟨by omega, by decide, hu2⟩, ⟨by omega, by omega, by omega⟩, by omega, by omega, ⟨by omega, by omega⟩, fun _ => hvi', fun _ => ⟨by omega, by omega⟩, fun _ => by unfold In64; omega, fun k2 => ?_, fun k2 => ?_⟩
      · have a1 : hitC l p.cs up D ((u : Int), true) ci = true := by
          rw [hE1]; revert k2
          cases decide (0 < Fu) <;> cases decide (Fw = Fu - 1) <;> simp
        have hs2 := hset1 _ hset0
        rw [hu01] at hs2
        refine ⟨⟨by omega, by omega, by omega⟩, ⟨by omega, by decide, hu2⟩, ⟨by omega, by omega, by omega⟩, by omega, by omega, by unfold In64; omega, hj2, _, ⟨hs2, ?_, ?_⟩, Nat.le_refl _, ⟨by omega, by omega, by omega⟩, hgA, wk_fam⟩
        · rw [hff, a0, hu10, hu00]; exact hgs _ hl0
        · rw [hff, a1, hu11]; exact hgs _ hl1
      · have a1 : hitC l p.cs up D ((u : Int), true) ci = false := by
          rw [hE1]; revert k2
          cases decide (0 < Fu) <;> cases decide (Fw = Fu - 1) <;> simp
        refine ⟨by unfold In64; omega, hj2, _, ⟨hset0, ?_, ?_⟩, Nat.le_refl _, ⟨by omega, by omega, by omega⟩, hgA, wk_fam⟩
        · rw [hff, a0, hu00]; exact hgs _ hl0
        · rw [hff, a1, hu01]; exact hv1
    · have a0 : hitC l p.cs up D ((u : Int), false) ci = false := by
        rw [hE0]; revert k
        cases decide (0 < Ru) <;> cases decide (Fw = Ru - 1) <;> simp
      refine ⟨⟨by omega, by omega⟩, fun _ => hvi', fun _ => ⟨by omega, by omega⟩, fun _ => by unfold In64; omega, fun k2 => ?_, fun k2 => ?_⟩
      · have a1 : hitC l p.cs up D ((u : Int), true) ci = true := by
          rw [hE1]; revert k2
          cases decide (0 < Fu) <;> cases decide (Fw = Fu - 1) <;> simp
        refine ⟨⟨by omega, by omega, by omega⟩, ⟨by omega, by decide, hu2⟩, ⟨by omega, by omega, by omega⟩, by omega, by omega, by unfold In64; omega, hj2, _, ⟨hset1 _ hC, ?_, ?_⟩, Nat.le_refl _, ⟨by omega, by omega, by omega⟩, hgA, wk_fam⟩
        · rw [hff, a0, hu10]; exact hv0
        · rw [hff, a1, hu11]; exact hgs _ hl1
      · have a1 : hitC l p.cs up D ((u : Int), true) ci = false := by
          rw [hE1]; revert k2
          cases decide (0 < Fu) <;> cases decide (Fw = Fu - 1) <;> simp
        exact ⟨by unfold In64; omega, hj2, C, hskip a0 a1, Nat.le_refl _, ⟨by omega, by omega, by omega⟩, hgA, wk_fam⟩
  · have a0 : hitC l p.cs up D ((u : Int), false) ci = false := by
      rw [hE0]; cases decide (0 < Ru) <;> rfl
    have a1 : hitC l p.cs up D ((u : Int), true) ci = false := by
      rw [hE1]; cases decide (0 < Fu) <;> rfl
    exact ⟨by unfold In64; omega, hj2, C, hskip a0 a1, Nat.le_refl _, ⟨by omega, by omega, by omega⟩, hgA, wk_fam⟩
end Go.Proofs.YtcdepkflghcjpaaDoor
namespace Go.Proofs.YtcdepkflghcjpaaDoor
set_option linter.unusedSimpArgs false
set_option linter.unusedVariables false
open Go.RowKit
set_option maxRecDepth 20000

theorem ev_lawMake (p : Pl) (hp : PlOk p) (l : List Int) (up : List Bool) : Ev Tryd.prog 3 [plV p, .agg [intsV l], boolsV up] (.sc (.bool true)) := by
  have h0 := ev_awake19
  have h1 := ev_small19 p l up
  have h2 := ev_fits19 p l up
  have h3 := ev_make p hp l up
  have h4 := fun hv hll hup => ev_rMake p hv l hll up hup
  have h5 := ev_same (makeT p l up) (makeT p l up)
  rw [sameT_refl] at h5
  have h6 := ev_valid19 p hp (makeT p l up)
  unfold plV boolsV intsV tabV at *
  refine ev_fn Tryd.func3 comp3 (show 3 ≤ Tryd.f3.ntmps by decide) ?_; unfold cf3 rf3; simp only [↓EVP0, EVQ0, EVQ1, EVQ2, EVQ3, EVQ4, EVA, EVK, EVF,EVFT, ↓reduceIte, Nat.reduceEqDiff, Nat.reduceAdd, Nat.reduceSub, Nat.reduceMul, Nat.reduceLT, Nat.reduceLeDiff, reduceCtorEq, Int.reduceToNat, Int.reduceLT, Int.reduceLE, Int.reduceAdd, Int.reduceSub, Int.reduceMul, Int.reduceNeg, Int.reduceEq, Nat.reduceMod, forall_eq_or_imp, forall_eq, forall_const, cond_true, cond_false, decide_true, decide_false, true_imp_iff, implies_true, Int.cast_ofNat_Int, forall_eq']
  refine callK_ro (h0) ?_ ?_
  · simp only [↓EVP0, EVQ0, EVQ1, EVQ2, EVQ3, EVQ4, EVA, EVK, EVF,EVFT, ↓reduceIte, Nat.reduceEqDiff, Nat.reduceAdd, Nat.reduceSub, Nat.reduceMul, Nat.reduceLT, Nat.reduceLeDiff, reduceCtorEq, Int.reduceToNat, Int.reduceLT, Int.reduceLE, Int.reduceAdd, Int.reduceSub, Int.reduceMul, Int.reduceNeg, Int.reduceEq, Nat.reduceMod, forall_eq_or_imp, forall_eq, forall_const, cond_true, cond_false, decide_true, decide_false, true_imp_iff, implies_true, Int.cast_ofNat_Int, forall_eq']
  simp only [↓EVP0, EVQ0, EVQ1, EVQ2, EVQ3, EVQ4, EVA, EVK, EVF,EVFT, ↓reduceIte, Nat.reduceEqDiff, Nat.reduceAdd, Nat.reduceSub, Nat.reduceMul, Nat.reduceLT, Nat.reduceLeDiff, reduceCtorEq, Int.reduceToNat, Int.reduceLT, Int.reduceLE, Int.reduceAdd, Int.reduceSub, Int.reduceMul, Int.reduceNeg, Int.reduceEq, Nat.reduceMod, forall_eq_or_imp, forall_eq, forall_const, cond_true, cond_false, decide_true, decide_false, true_imp_iff, implies_true, Int.cast_ofNat_Int, forall_eq']
  refine callK_ro (h1) ?_ ?_
  · simp only [↓EVP0, EVQ0, EVQ1, EVQ2, EVQ3, EVQ4, EVA, EVK, EVF,EVFT, ↓reduceIte, Nat.reduceEqDiff, Nat.reduceAdd, Nat.reduceSub, Nat.reduceMul, Nat.reduceLT, Nat.reduceLeDiff, reduceCtorEq, Int.reduceToNat, Int.reduceLT, Int.reduceLE, Int.reduceAdd, Int.reduceSub, Int.reduceMul, Int.reduceNeg, Int.reduceEq, Nat.reduceMod, forall_eq_or_imp, forall_eq, forall_const, cond_true, cond_false, decide_true, decide_false, true_imp_iff, implies_true, Int.cast_ofNat_Int, forall_eq']
  simp only [↓EVP0, EVQ0, EVQ1, EVQ2, EVQ3, EVQ4, EVA, EVK, EVF,EVFT, ↓reduceIte, Nat.reduceEqDiff, Nat.reduceAdd, Nat.reduceSub, Nat.reduceMul, Nat.reduceLT, Nat.reduceLeDiff, reduceCtorEq, Int.reduceToNat, Int.reduceLT, Int.reduceLE, Int.reduceAdd, Int.reduceSub, Int.reduceMul, Int.reduceNeg, Int.reduceEq, Nat.reduceMod, forall_eq_or_imp, forall_eq, forall_const, cond_true, cond_false, decide_true, decide_false, true_imp_iff, implies_true, Int.cast_ofNat_Int, forall_eq']
  have hs : decide ((if smallB p l up = true then (1 : Int) else 0) = 0) = !smallB p l up := by cases smallB p l up <;> rfl
  rw [hs]
  refine ⟨fun _ => trivial, fun hg => ?_⟩
  have c1 : smallB p l up = true := by
    cases h : smallB p l up
    · rw [h] at hg; simp at hg
    · rfl
  have h88 : p.ns.length ≤ 8 := by
    unfold smallB at c1
    simp only [Bool.and_eq_true, decide_eq_true_eq] at c1
    exact c1.1
  have h31 := h3 h88
  refine callK_ro (h31) ?_ ?_
  · simp only [↓EVP0, EVQ0, EVQ1, EVQ2, EVQ3, EVQ4, EVA, EVK, EVF,EVFT, ↓reduceIte, Nat.reduceEqDiff, Nat.reduceAdd, Nat.reduceSub, Nat.reduceMul, Nat.reduceLT, Nat.reduceLeDiff, reduceCtorEq, Int.reduceToNat, Int.reduceLT, Int.reduceLE, Int.reduceAdd, Int.reduceSub, Int.reduceMul, Int.reduceNeg, Int.reduceEq, Nat.reduceMod, forall_eq_or_imp, forall_eq, forall_const, cond_true, cond_false, decide_true, decide_false, true_imp_iff, implies_true, Int.cast_ofNat_Int, forall_eq']
  simp only [↓EVP0, EVQ0, EVQ1, EVQ2, EVQ3, EVQ4, EVA, EVK, EVF,EVFT, ↓reduceIte, Nat.reduceEqDiff, Nat.reduceAdd, Nat.reduceSub, Nat.reduceMul, Nat.reduceLT, Nat.reduceLeDiff, reduceCtorEq, Int.reduceToNat, Int.reduceLT, Int.reduceLE, Int.reduceAdd, Int.reduceSub, Int.reduceMul, Int.reduceNeg, Int.reduceEq, Nat.reduceMod, forall_eq_or_imp, forall_eq, forall_const, cond_true, cond_false, decide_true, decide_false, true_imp_iff, implies_true, Int.cast_ofNat_Int, forall_eq']
  refine callK_ro (h2) ?_ ?_
  · simp only [↓EVP0, EVQ0, EVQ1, EVQ2, EVQ3, EVQ4, EVA, EVK, EVF,EVFT, ↓reduceIte, Nat.reduceEqDiff, Nat.reduceAdd, Nat.reduceSub, Nat.reduceMul, Nat.reduceLT, Nat.reduceLeDiff, reduceCtorEq, Int.reduceToNat, Int.reduceLT, Int.reduceLE, Int.reduceAdd, Int.reduceSub, Int.reduceMul, Int.reduceNeg, Int.reduceEq, Nat.reduceMod, forall_eq_or_imp, forall_eq, forall_const, cond_true, cond_false, decide_true, decide_false, true_imp_iff, implies_true, Int.cast_ofNat_Int, forall_eq']
  simp only [↓EVP0, EVQ0, EVQ1, EVQ2, EVQ3, EVQ4, EVA, EVK, EVF,EVFT, ↓reduceIte, Nat.reduceEqDiff, Nat.reduceAdd, Nat.reduceSub, Nat.reduceMul, Nat.reduceLT, Nat.reduceLeDiff, reduceCtorEq, Int.reduceToNat, Int.reduceLT, Int.reduceLE, Int.reduceAdd, Int.reduceSub, Int.reduceMul, Int.reduceNeg, Int.reduceEq, Nat.reduceMod, forall_eq_or_imp, forall_eq, forall_const, cond_true, cond_false, decide_true, decide_false, true_imp_iff, implies_true, Int.cast_ofNat_Int, forall_eq']
  cases c2 : fitB19 p l up
  · have hE : makeE p l up = ([], 1) := by
      unfold makeE
      rw [if_neg]
      rintro ⟨a, b⟩
      have hv := (ord_of a).v
      unfold fitB19 at c2
      rw [fits_ord hv, a, decide_eq_true hv, decide_eq_true b] at c2
      simp at c2
    rw [hE]
    simp only [Bool.not_false]
    simp only [↓EVP0, EVQ0, EVQ1, EVQ2, EVQ3, EVQ4, EVA, EVK, EVF,EVFT, ↓reduceIte, Nat.reduceEqDiff, Nat.reduceAdd, Nat.reduceSub, Nat.reduceMul, Nat.reduceLT, Nat.reduceLeDiff, reduceCtorEq, Int.reduceToNat, Int.reduceLT, Int.reduceLE, Int.reduceAdd, Int.reduceSub, Int.reduceMul, Int.reduceNeg, Int.reduceEq, Nat.reduceMod, forall_eq_or_imp, forall_eq, forall_const, cond_true, cond_false, decide_true, decide_false, true_imp_iff, implies_true, Int.cast_ofNat_Int, forall_eq']
  obtain ⟨hv, ho, hup⟩ := fit_of c2
  have hll := (ord_of ho).len
  have hE : makeE p l up = (makeT p l up, 0) := by unfold makeE; rw [if_pos ⟨ho, hup⟩]
  rw [hE]
  have h41 := h4 hv hll hup
  rw [makeT_len] at h5
  rw [make_valid hv hll] at h6
  rw [makeT_len] at h6
  simp only [Bool.not_true]
  simp only [↓EVP0, EVQ0, EVQ1, EVQ2, EVQ3, EVQ4, EVA, EVK, EVF,EVFT, ↓reduceIte, Nat.reduceEqDiff, Nat.reduceAdd, Nat.reduceSub, Nat.reduceMul, Nat.reduceLT, Nat.reduceLeDiff, reduceCtorEq, Int.reduceToNat, Int.reduceLT, Int.reduceLE, Int.reduceAdd, Int.reduceSub, Int.reduceMul, Int.reduceNeg, Int.reduceEq, Nat.reduceMod, forall_eq_or_imp, forall_eq, forall_const, cond_true, cond_false, decide_true, decide_false, true_imp_iff, implies_true, Int.cast_ofNat_Int, forall_eq']
  rw [makeT_len]
  (first | refine lopsQ_gcall ?_ | refine lopsQ_gecl ?_); (simp only [↓EVP0, EVQ0, EVQ1, EVQ2, EVQ3, EVQ4, EVA, EVK, EVF,EVFT, ↓reduceIte, Nat.reduceEqDiff, Nat.reduceAdd, Nat.reduceSub, Nat.reduceMul, Nat.reduceLT, Nat.reduceLeDiff, reduceCtorEq, Int.reduceToNat, Int.reduceLT, Int.reduceLE, Int.reduceAdd, Int.reduceSub, Int.reduceMul, Int.reduceNeg, Int.reduceEq, Nat.reduceMod, forall_eq_or_imp, forall_eq, forall_const, cond_true, cond_false, decide_true, decide_false, true_imp_iff, implies_true, Int.cast_ofNat_Int, forall_eq'])
  first | refine gCallK_ro _ (fun _ => h41) (fun _ => ?_) ?_ | refine geCallK_ro _ (fun _ => h41) (fun _ => ?_) ?_
  · simp only [↓EVP0, EVQ0, EVQ1, EVQ2, EVQ3, EVQ4, EVA, EVK, EVF,EVFT, ↓reduceIte, Nat.reduceEqDiff, Nat.reduceAdd, Nat.reduceSub, Nat.reduceMul, Nat.reduceLT, Nat.reduceLeDiff, reduceCtorEq, Int.reduceToNat, Int.reduceLT, Int.reduceLE, Int.reduceAdd, Int.reduceSub, Int.reduceMul, Int.reduceNeg, Int.reduceEq, Nat.reduceMod, forall_eq_or_imp, forall_eq, forall_const, cond_true, cond_false, decide_true, decide_false, true_imp_iff, implies_true, Int.cast_ofNat_Int, forall_eq']
  simp only [↓EVP0, EVQ0, EVQ1, EVQ2, EVQ3, EVQ4, EVA, EVK, EVF,EVFT, ↓reduceIte, Nat.reduceEqDiff, Nat.reduceAdd, Nat.reduceSub, Nat.reduceMul, Nat.reduceLT, Nat.reduceLeDiff, reduceCtorEq, Int.reduceToNat, Int.reduceLT, Int.reduceLE, Int.reduceAdd, Int.reduceSub, Int.reduceMul, Int.reduceNeg, Int.reduceEq, Nat.reduceMod, forall_eq_or_imp, forall_eq, forall_const, cond_true, cond_false, decide_true, decide_false, true_imp_iff, implies_true, Int.cast_ofNat_Int, forall_eq']
  (first | refine lopsQ_gcall ?_ | refine lopsQ_gecl ?_); (simp only [↓EVP0, EVQ0, EVQ1, EVQ2, EVQ3, EVQ4, EVA, EVK, EVF,EVFT, ↓reduceIte, Nat.reduceEqDiff, Nat.reduceAdd, Nat.reduceSub, Nat.reduceMul, Nat.reduceLT, Nat.reduceLeDiff, reduceCtorEq, Int.reduceToNat, Int.reduceLT, Int.reduceLE, Int.reduceAdd, Int.reduceSub, Int.reduceMul, Int.reduceNeg, Int.reduceEq, Nat.reduceMod, forall_eq_or_imp, forall_eq, forall_const, cond_true, cond_false, decide_true, decide_false, true_imp_iff, implies_true, Int.cast_ofNat_Int, forall_eq'])
  first | refine gCallK_ro _ (fun _ => h5) (fun _ => ?_) ?_ | refine geCallK_ro _ (fun _ => h5) (fun _ => ?_) ?_
  · simp only [↓EVP0, EVQ0, EVQ1, EVQ2, EVQ3, EVQ4, EVA, EVK, EVF,EVFT, ↓reduceIte, Nat.reduceEqDiff, Nat.reduceAdd, Nat.reduceSub, Nat.reduceMul, Nat.reduceLT, Nat.reduceLeDiff, reduceCtorEq, Int.reduceToNat, Int.reduceLT, Int.reduceLE, Int.reduceAdd, Int.reduceSub, Int.reduceMul, Int.reduceNeg, Int.reduceEq, Nat.reduceMod, forall_eq_or_imp, forall_eq, forall_const, cond_true, cond_false, decide_true, decide_false, true_imp_iff, implies_true, Int.cast_ofNat_Int, forall_eq']
  simp only [↓EVP0, EVQ0, EVQ1, EVQ2, EVQ3, EVQ4, EVA, EVK, EVF,EVFT, ↓reduceIte, Nat.reduceEqDiff, Nat.reduceAdd, Nat.reduceSub, Nat.reduceMul, Nat.reduceLT, Nat.reduceLeDiff, reduceCtorEq, Int.reduceToNat, Int.reduceLT, Int.reduceLE, Int.reduceAdd, Int.reduceSub, Int.reduceMul, Int.reduceNeg, Int.reduceEq, Nat.reduceMod, forall_eq_or_imp, forall_eq, forall_const, cond_true, cond_false, decide_true, decide_false, true_imp_iff, implies_true, Int.cast_ofNat_Int, forall_eq']
  (first | refine lopsQ_gcall ?_ | refine lopsQ_gecl ?_); (simp only [↓EVP0, EVQ0, EVQ1, EVQ2, EVQ3, EVQ4, EVA, EVK, EVF,EVFT, ↓reduceIte, Nat.reduceEqDiff, Nat.reduceAdd, Nat.reduceSub, Nat.reduceMul, Nat.reduceLT, Nat.reduceLeDiff, reduceCtorEq, Int.reduceToNat, Int.reduceLT, Int.reduceLE, Int.reduceAdd, Int.reduceSub, Int.reduceMul, Int.reduceNeg, Int.reduceEq, Nat.reduceMod, forall_eq_or_imp, forall_eq, forall_const, cond_true, cond_false, decide_true, decide_false, true_imp_iff, implies_true, Int.cast_ofNat_Int, forall_eq'])
  first | refine gCallK_ro _ (fun _ => h6) (fun _ => ?_) ?_ | refine geCallK_ro _ (fun _ => h6) (fun _ => ?_) ?_
  · simp only [↓EVP0, EVQ0, EVQ1, EVQ2, EVQ3, EVQ4, EVA, EVK, EVF,EVFT, ↓reduceIte, Nat.reduceEqDiff, Nat.reduceAdd, Nat.reduceSub, Nat.reduceMul, Nat.reduceLT, Nat.reduceLeDiff, reduceCtorEq, Int.reduceToNat, Int.reduceLT, Int.reduceLE, Int.reduceAdd, Int.reduceSub, Int.reduceMul, Int.reduceNeg, Int.reduceEq, Nat.reduceMod, forall_eq_or_imp, forall_eq, forall_const, cond_true, cond_false, decide_true, decide_false, true_imp_iff, implies_true, Int.cast_ofNat_Int, forall_eq']
  simp only [↓EVP0, EVQ0, EVQ1, EVQ2, EVQ3, EVQ4, EVA, EVK, EVF,EVFT, ↓reduceIte, Nat.reduceEqDiff, Nat.reduceAdd, Nat.reduceSub, Nat.reduceMul, Nat.reduceLT, Nat.reduceLeDiff, reduceCtorEq, Int.reduceToNat, Int.reduceLT, Int.reduceLE, Int.reduceAdd, Int.reduceSub, Int.reduceMul, Int.reduceNeg, Int.reduceEq, Nat.reduceMod, forall_eq_or_imp, forall_eq, forall_const, cond_true, cond_false, decide_true, decide_false, true_imp_iff, implies_true, Int.cast_ofNat_Int, forall_eq']
end Go.Proofs.YtcdepkflghcjpaaDoor
