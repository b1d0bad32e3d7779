/- Paths in a plan and their nodes; Steps of paths, and legal paths; The reference's Legal; Maps from states of paths to lengths; Lengths that become smaller until they are the least ones: plain law; The program's search for lengths of paths; Distances; the first cable of a shortest path; Path; Path; Lengths, one after the other: plain law. Conditions: none. -/
import Derived.Test.YtibpkgopbecfoaaME
namespace Go.Proofs.Ytibpkgopbecfoaa
set_option linter.unusedSimpArgs false
set_option linter.unusedVariables false
open Go.RowKit
set_option maxRecDepth 20000

def acrE (c : Cb) (x : Int) : Int × Bool := bif decide (x = c.a) then (c.b, true) else bif decide (x = c.b) then (c.a, true) else (0, false)
theorem ev_across (c : Cb) (x : Int) : Ev Try.prog 45 [.agg (cbL c), .sc (.int .i64 x)] (.tup [.sc (.int .i64 (acrE c x).1), .sc (.bool (acrE c x).2)]) := by
  unfold cbL
  refine ev_fn Try.func45 comp45 (show 2 ≤ Try.f45.ntmps by decide) ?_; unfold cf45 rf45; simp only [↓EVP0, EVQ0, EVQ1, EVQ2, EVQ3, EVQ4, EVA, EVK, EVF, ↓reduceIte, Nat.reduceEqDiff, Nat.reduceAdd, Nat.reduceSub, Nat.reduceMul, Nat.reduceLT, Nat.reduceLeDiff, reduceCtorEq, Int.reduceToNat, Int.reduceLT, Int.reduceLE, Int.reduceAdd, Int.reduceSub, Int.reduceMul, Int.reduceNeg, Int.reduceEq, Nat.reduceMod, forall_eq_or_imp, forall_eq, forall_const, cond_true, cond_false, decide_true, decide_false, true_imp_iff, implies_true, Int.cast_ofNat_Int, forall_eq']
  unfold acrE
  refine ⟨fun h => by rw [h]; exact ⟨rfl, rfl⟩, fun h => ⟨fun h2 => by rw [h, h2]; exact ⟨rfl, rfl⟩, fun h2 => by rw [h, h2]; exact ⟨rfl, rfl⟩⟩⟩
def nodB (p : Pl) (x : Int) : Bool := decide (0 ≤ x) && decide (x < p.ns.length)
def cabB (p : Pl) (x : Int) : Bool := decide (0 ≤ x) && decide (x < p.cs.length)
theorem ev_isNode (p : Pl) (x : Int) : Ev Try.prog 43 [plV p, .sc (.int .i64 x)] (.sc (.bool (nodB p x))) := by
  unfold plV
  refine ev_fn Try.func43 comp43 (show 2 ≤ Try.f43.ntmps by decide) ?_; unfold cf43 rf43; simp only [↓EVP0, EVQ0, EVQ1, EVQ2, EVQ3, EVQ4, EVA, EVK, EVF, ↓reduceIte, Nat.reduceEqDiff, Nat.reduceAdd, Nat.reduceSub, Nat.reduceMul, Nat.reduceLT, Nat.reduceLeDiff, reduceCtorEq, Int.reduceToNat, Int.reduceLT, Int.reduceLE, Int.reduceAdd, Int.reduceSub, Int.reduceMul, Int.reduceNeg, Int.reduceEq, Nat.reduceMod, forall_eq_or_imp, forall_eq, forall_const, cond_true, cond_false, decide_true, decide_false, true_imp_iff, implies_true, Int.cast_ofNat_Int, forall_eq']
  rw [condF]; rfl
theorem ev_isCable (p : Pl) (x : Int) : Ev Try.prog 44 [plV p, .sc (.int .i64 x)] (.sc (.bool (cabB p x))) := by
  unfold plV
  refine ev_fn Try.func44 comp44 (show 2 ≤ Try.f44.ntmps by decide) ?_; unfold cf44 rf44; simp only [↓EVP0, EVQ0, EVQ1, EVQ2, EVQ3, EVQ4, EVA, EVK, EVF, ↓reduceIte, Nat.reduceEqDiff, Nat.reduceAdd, Nat.reduceSub, Nat.reduceMul, Nat.reduceLT, Nat.reduceLeDiff, reduceCtorEq, Int.reduceToNat, Int.reduceLT, Int.reduceLE, Int.reduceAdd, Int.reduceSub, Int.reduceMul, Int.reduceNeg, Int.reduceEq, Nat.reduceMod, forall_eq_or_imp, forall_eq, forall_const, cond_true, cond_false, decide_true, decide_false, true_imp_iff, implies_true, Int.cast_ofNat_Int, forall_eq']
  rw [condF]; rfl
/-- The nodes behind the first one. -/
def wlk (cs : List Cb) : Int → List Int → Option (List Int)
  | _, [] => some []
  | x, c :: r => if (acrE (cs.getD c.toNat default) x).2 = true then (wlk cs (acrE (cs.getD c.toNat default) x).1 r).map ((acrE (cs.getD c.toNat default) x).1 :: ·) else none
def nodesE (p : Pl) (f : Int) (path : List Int) : List Int × Int :=
  if validE p = 0 then (if nodB p f = true then (if path.all (cabB p) = true then (match wlk p.cs f path with | some l => (f :: l, 0) | none => ([], 12)) else ([], 2)) else ([], 2)) else ([], 1)
theorem intsV_nil : intsV [] = .rsl 1 0 (intsF []) := rfl
theorem drop_getD {α : Type} (d : α) {l : List α} {i : Nat} (h : i < l.length) : l.drop i = l.getD i d :: l.drop (i + 1) := by
  rw [List.drop_eq_getElem_cons h, List.getD_eq_getElem?_getD, List.getElem?_eq_getElem h]; rfl
theorem nodB_false {p : Pl} {x : Int} (h : nodB p x = false) : ¬ (0 ≤ x ∧ x < p.ns.length) := by
  intro hx; unfold nodB at h; simp [hx] at h
theorem getD_mem {α : Type} (d : α) {l : List α} {i : Nat} (h : i < l.length) : l.getD i d ∈ l := by
  rw [List.getD_eq_getElem?_getD, List.getElem?_eq_getElem h]; exact List.getElem_mem h
theorem take_full (xs : List Int) (n : Nat) (h : xs.length ≤ n) : xs.take n = xs := List.take_of_length_le h
theorem ev_nodes (p : Pl) (hp : PlOk p) (f : Int) (path : List Int) (hl : path.length ≤ 1000) : Ev Try.prog 15 [plV p, .sc (.int .i64 f), intsV path] (.tup [intsV (nodesE p f path).1, .sc (.int .i64 (nodesE p f path).2)]) := by
  have h1 := ev_valid p hp
  have h2 := ev_isNode p
  have h3 := ev_isCable p
  have h4 := ev_across
  unfold plV intsV cbL at *
  refine ev_fn Try.func15 comp15 (show 3 ≤ Try.f15.ntmps by decide) ?_; unfold cf15 rf15; simp only [↓EVP0, EVQ0, EVQ1, EVQ2, EVQ3, EVQ4, EVA, EVK, EVF, ↓reduceIte, Nat.reduceEqDiff, Nat.reduceAdd, Nat.reduceSub, Nat.reduceMul, Nat.reduceLT, Nat.reduceLeDiff, reduceCtorEq, Int.reduceToNat, Int.reduceLT, Int.reduceLE, Int.reduceAdd, Int.reduceSub, Int.reduceMul, Int.reduceNeg, Int.reduceEq, Nat.reduceMod, forall_eq_or_imp, forall_eq, forall_const, cond_true, cond_false, decide_true, decide_false, true_imp_iff, implies_true, Int.cast_ofNat_Int, forall_eq']
  refine callK_ro (h1) ?_ ?_
  · simp only [↓EVP0, EVQ0, EVQ1, EVQ2, EVQ3, EVQ4, EVA, EVK, EVF, ↓reduceIte, Nat.reduceEqDiff, Nat.reduceAdd, Nat.reduceSub, Nat.reduceMul, Nat.reduceLT, Nat.reduceLeDiff, reduceCtorEq, Int.reduceToNat, Int.reduceLT, Int.reduceLE, Int.reduceAdd, Int.reduceSub, Int.reduceMul, Int.reduceNeg, Int.reduceEq, Nat.reduceMod, forall_eq_or_imp, forall_eq, forall_const, cond_true, cond_false, decide_true, decide_false, true_imp_iff, implies_true, Int.cast_ofNat_Int, forall_eq']
  simp only [↓EVP0, EVQ0, EVQ1, EVQ2, EVQ3, EVQ4, EVA, EVK, EVF, ↓reduceIte, Nat.reduceEqDiff, Nat.reduceAdd, Nat.reduceSub, Nat.reduceMul, Nat.reduceLT, Nat.reduceLeDiff, reduceCtorEq, Int.reduceToNat, Int.reduceLT, Int.reduceLE, Int.reduceAdd, Int.reduceSub, Int.reduceMul, Int.reduceNeg, Int.reduceEq, Nat.reduceMod, forall_eq_or_imp, forall_eq, forall_const, cond_true, cond_false, decide_true, decide_false, true_imp_iff, implies_true, Int.cast_ofNat_Int, forall_eq']
  refine ⟨fun hg => ?_, fun hg => ?_⟩
  · have e : nodesE p f path = ([], 1) := by unfold nodesE; rw [if_neg (by simpa using hg)]
    rw [e]; simp
  have hv : validE p = 0 := by simpa using hg
  refine callK_ro (h2 f) ?_ ?_
  · simp only [↓EVP0, EVQ0, EVQ1, EVQ2, EVQ3, EVQ4, EVA, EVK, EVF, ↓reduceIte, Nat.reduceEqDiff, Nat.reduceAdd, Nat.reduceSub, Nat.reduceMul, Nat.reduceLT, Nat.reduceLeDiff, reduceCtorEq, Int.reduceToNat, Int.reduceLT, Int.reduceLE, Int.reduceAdd, Int.reduceSub, Int.reduceMul, Int.reduceNeg, Int.reduceEq, Nat.reduceMod, forall_eq_or_imp, forall_eq, forall_const, cond_true, cond_false, decide_true, decide_false, true_imp_iff, implies_true, Int.cast_ofNat_Int, forall_eq']
  simp only [↓EVP0, EVQ0, EVQ1, EVQ2, EVQ3, EVQ4, EVA, EVK, EVF, ↓reduceIte, Nat.reduceEqDiff, Nat.reduceAdd, Nat.reduceSub, Nat.reduceMul, Nat.reduceLT, Nat.reduceLeDiff, reduceCtorEq, Int.reduceToNat, Int.reduceLT, Int.reduceLE, Int.reduceAdd, Int.reduceSub, Int.reduceMul, Int.reduceNeg, Int.reduceEq, Nat.reduceMod, forall_eq_or_imp, forall_eq, forall_const, cond_true, cond_false, decide_true, decide_false, true_imp_iff, implies_true, Int.cast_ofNat_Int, forall_eq']
  refine ⟨fun hg => ?_, fun hg => ?_⟩
  · have e : nodesE p f path = ([], 2) := by unfold nodesE; rw [if_pos hv, if_neg (by simpa using hg)]
    rw [e]; simp
  have hf : nodB p f = true := by simpa using hg
  intro _
  refine lwp_for (α := Unit) path.length (fun i _ => (path.take i).all (cabB p) = true) (fun i _ => [(1, .sc (.int .i64 f)), (2, .rsl 1 path.length (intsF path)), (3, .ptr 0 0 0 0 0), (23, .rsl 1 path.length (intsF path)), (24, .sc (.int .i64 path.length)), (25, .sc (.int .i64 i))])
    (fun _ _ => [(0, .box [.rsl 3 p.ns.length (ndsF p.ns), .rsl 6 p.cs.length (cbsF p.cs)])]) () rfl ?_ (fun _ _ => Nat.zero_le _) ?_
  · simp only [↓EVP0, EVQ0, EVQ1, EVQ2, EVQ3, EVQ4, EVA, EVK, EVF, ↓reduceIte, Nat.reduceEqDiff, Nat.reduceAdd, Nat.reduceSub, Nat.reduceMul, Nat.reduceLT, Nat.reduceLeDiff, reduceCtorEq, Int.reduceToNat, Int.reduceLT, Int.reduceLE, Int.reduceAdd, Int.reduceSub, Int.reduceMul, Int.reduceNeg, Int.reduceEq, Nat.reduceMod, forall_eq_or_imp, forall_eq, forall_const, cond_true, cond_false, decide_true, decide_false, true_imp_iff, implies_true, Int.cast_ofNat_Int, forall_eq']
  intro i _ hi hx
  unfold lb15_1
  simp only [↓EVP0, EVQ0, EVQ1, EVQ2, EVQ3, EVQ4, EVA, EVK, EVF, ↓reduceIte, Nat.reduceEqDiff, Nat.reduceAdd, Nat.reduceSub, Nat.reduceMul, Nat.reduceLT, Nat.reduceLeDiff, reduceCtorEq, Int.reduceToNat, Int.reduceLT, Int.reduceLE, Int.reduceAdd, Int.reduceSub, Int.reduceMul, Int.reduceNeg, Int.reduceEq, Nat.reduceMod, forall_eq_or_imp, forall_eq, forall_const, cond_true, cond_false, decide_true, decide_false, true_imp_iff, implies_true, Int.cast_ofNat_Int, forall_eq']
  refine ⟨fun hg => ?_, fun hg => ?_⟩
  · have hi2 : i < path.length := by simpa using hg
    refine ⟨⟨by omega, by omega⟩, ?_⟩
    refine callK_ro (h3 _) ?_ ?_
    · simp only [↓EVP0, EVQ0, EVQ1, EVQ2, EVQ3, EVQ4, EVA, EVK, EVF, ↓reduceIte, Nat.reduceEqDiff, Nat.reduceAdd, Nat.reduceSub, Nat.reduceMul, Nat.reduceLT, Nat.reduceLeDiff, reduceCtorEq, Int.reduceToNat, Int.reduceLT, Int.reduceLE, Int.reduceAdd, Int.reduceSub, Int.reduceMul, Int.reduceNeg, Int.reduceEq, Nat.reduceMod, forall_eq_or_imp, forall_eq, forall_const, cond_true, cond_false, decide_true, decide_false, true_imp_iff, implies_true, Int.cast_ofNat_Int, forall_eq']
    simp only [↓EVP0, EVQ0, EVQ1, EVQ2, EVQ3, EVQ4, EVA, EVK, EVF, ↓reduceIte, Nat.reduceEqDiff, Nat.reduceAdd, Nat.reduceSub, Nat.reduceMul, Nat.reduceLT, Nat.reduceLeDiff, reduceCtorEq, Int.reduceToNat, Int.reduceLT, Int.reduceLE, Int.reduceAdd, Int.reduceSub, Int.reduceMul, Int.reduceNeg, Int.reduceEq, Nat.reduceMod, forall_eq_or_imp, forall_eq, forall_const, cond_true, cond_false, decide_true, decide_false, true_imp_iff, implies_true, Int.cast_ofNat_Int, forall_eq']
    refine ⟨fun hg => ?_, fun hg => ⟨by unfold In64; omega, hi2, (), all_step 0 hi2 hx (by simpa using hg)⟩⟩
    have e : nodesE p f path = ([], 2) := by
      unfold nodesE; rw [if_pos hv, if_pos hf, if_neg (by rw [all_fail (q := cabB p) 0 hi2 (by simpa using hg)]; simp)]
    rw [e]; simp
  have hii : i = path.length := by have := of_decide_eq_false hg; omega
  subst hii
  have hP := all_len hx
  have hcab : ∀ j, j < path.length → 0 ≤ path.getD j 0 ∧ path.getD j 0 < p.cs.length := by
    intro j hj
    have := List.all_eq_true.1 hP _ (getD_mem 0 hj)
    unfold cabB at this
    simpa using this
  clear hx hi hg
  intro _
  refine lwp_for (α := List Int × Int) path.length (fun i x => x.1.length = i ∧ wlk p.cs f path = (wlk p.cs x.2 (path.drop i)).map (x.1 ++ ·))
    (fun i x => [(3, .ptr 0 0 0 0 0), (10, .sl 1 i 1 0 (i + 1)), (11, .sc (.int .i64 x.2)), (37, .rsl 1 path.length (intsF path)), (38, .sc (.int .i64 path.length)), (39, .sc (.int .i64 i))])
    (fun i x => [(0, .box [.rsl 3 p.ns.length (ndsF p.ns), .rsl 6 p.cs.length (cbsF p.cs)]), (i, .ints (f :: x.1))]) ([], f) ⟨rfl, by simp⟩ ?_ (fun _ _ => Nat.zero_le _) ?_
  · simp only [↓EVP0, EVQ0, EVQ1, EVQ2, EVQ3, EVQ4, EVA, EVK, EVF, ↓reduceIte, Nat.reduceEqDiff, Nat.reduceAdd, Nat.reduceSub, Nat.reduceMul, Nat.reduceLT, Nat.reduceLeDiff, reduceCtorEq, Int.reduceToNat, Int.reduceLT, Int.reduceLE, Int.reduceAdd, Int.reduceSub, Int.reduceMul, Int.reduceNeg, Int.reduceEq, Nat.reduceMod, forall_eq_or_imp, forall_eq, forall_const, cond_true, cond_false, decide_true, decide_false, true_imp_iff, implies_true, Int.cast_ofNat_Int, forall_eq']
  rintro i ⟨acc, x⟩ hi ⟨ha, hx⟩
  simp only at ha hx
  unfold lb15_0
  simp only [↓EVP0, EVQ0, EVQ1, EVQ2, EVQ3, EVQ4, EVA, EVK, EVF, ↓reduceIte, Nat.reduceEqDiff, Nat.reduceAdd, Nat.reduceSub, Nat.reduceMul, Nat.reduceLT, Nat.reduceLeDiff, reduceCtorEq, Int.reduceToNat, Int.reduceLT, Int.reduceLE, Int.reduceAdd, Int.reduceSub, Int.reduceMul, Int.reduceNeg, Int.reduceEq, Nat.reduceMod, forall_eq_or_imp, forall_eq, forall_const, cond_true, cond_false, decide_true, decide_false, true_imp_iff, implies_true, Int.cast_ofNat_Int, forall_eq']
  refine ⟨fun hg => ?_, fun hg => ?_⟩
  · have hi2 : i < path.length := by simpa using hg
    refine ⟨⟨by omega, by omega⟩, ?_⟩
    refine ⟨hcab i hi2, ?_⟩
    have hw : wlk p.cs x (path.drop i) = if (acrE (p.cs.getD (path.getD i 0).toNat default) x).2 = true then (wlk p.cs (acrE (p.cs.getD (path.getD i 0).toNat default) x).1 (path.drop (i + 1))).map ((acrE (p.cs.getD (path.getD i 0).toNat default) x).1 :: ·) else none := by
      rw [drop_getD 0 hi2]; rfl
    refine callK_ro (h4 _ _) ?_ ?_
    · simp only [↓EVP0, EVQ0, EVQ1, EVQ2, EVQ3, EVQ4, EVA, EVK, EVF, ↓reduceIte, Nat.reduceEqDiff, Nat.reduceAdd, Nat.reduceSub, Nat.reduceMul, Nat.reduceLT, Nat.reduceLeDiff, reduceCtorEq, Int.reduceToNat, Int.reduceLT, Int.reduceLE, Int.reduceAdd, Int.reduceSub, Int.reduceMul, Int.reduceNeg, Int.reduceEq, Nat.reduceMod, forall_eq_or_imp, forall_eq, forall_const, cond_true, cond_false, decide_true, decide_false, true_imp_iff, implies_true, Int.cast_ofNat_Int, forall_eq']
    simp only [↓EVP0, EVQ0, EVQ1, EVQ2, EVQ3, EVQ4, EVA, EVK, EVF, ↓reduceIte, Nat.reduceEqDiff, Nat.reduceAdd, Nat.reduceSub, Nat.reduceMul, Nat.reduceLT, Nat.reduceLeDiff, reduceCtorEq, Int.reduceToNat, Int.reduceLT, Int.reduceLE, Int.reduceAdd, Int.reduceSub, Int.reduceMul, Int.reduceNeg, Int.reduceEq, Nat.reduceMod, forall_eq_or_imp, forall_eq, forall_const, cond_true, cond_false, decide_true, decide_false, true_imp_iff, implies_true, Int.cast_ofNat_Int, forall_eq']
    generalize hq : acrE (p.cs.getD (path.getD i 0).toNat default) x = q at *
    refine ⟨fun h => ?_, fun h => ?_⟩
    · rw [if_neg (by simpa using h)] at hw
      have e : nodesE p f path = ([], 12) := by
        unfold nodesE; rw [if_pos hv, if_pos hf, if_pos hP, hx, hw]; rfl
      rw [e]; simp
    · have h' : q.2 = true := by simpa using h
      rw [if_pos h'] at hw
      refine ⟨by omega, by unfold appRoom; omega, by unfold In64; omega, hi2, (acc ++ [q.1], q.1), ⟨by simp [ha], ?_⟩, rfl, by rw [List.take_of_length_le (by omega)]⟩
      rw [hx, hw]
      cases wlk p.cs q.1 (path.drop (i + 1)) <;> simp
  · have hii : i = path.length := by have := of_decide_eq_false hg; omega
    subst hii
    rw [List.drop_length] at hx
    have e : nodesE p f path = (f :: acc, 0) := by
      unfold nodesE; rw [if_pos hv, if_pos hf, if_pos hP, hx]; simp [wlk]
    rw [e]
    exact ⟨⟨by simp [ha], by omega, fun j hj => rfl⟩, rfl⟩
theorem other_acr {c : Cb} (x : Int) (ha : 0 ≤ c.a) (hb : 0 ≤ c.b) : otherE c x = if (acrE c x).2 = true then (acrE c x).1 else -1 := by
  unfold otherE acrE
  rw [show decide (c.a = x) = decide (x = c.a) from decide_eq_decide.2 eq_comm, show decide (c.b = x) = decide (x = c.b) from decide_eq_decide.2 eq_comm]
  cases decide (x = c.a) <;> cases decide (x = c.b) <;> rfl
theorem cs_in {p : Pl} (hv : validE p = 0) {i : Int} (h : 0 ≤ i ∧ i < p.cs.length) : inN p.ns.length (p.cs.getD i.toNat default).a ∧ inN p.ns.length (p.cs.getD i.toNat default).b := (valid_of hv).cab _ (cs_mem h.1 h.2)
theorem acr_in {p : Pl} (hv : validE p = 0) {i x : Int} (h : 0 ≤ i ∧ i < p.cs.length) (ho : (acrE (p.cs.getD i.toNat default) x).2 = true) : inN p.ns.length (acrE (p.cs.getD i.toNat default) x).1 := by
  obtain ⟨h1, h2⟩ := cs_in hv h
  unfold acrE at *
  revert ho
  cases decide (x = (p.cs.getD i.toNat default).a)
  · cases decide (x = (p.cs.getD i.toNat default).b)
    · intro h; simp at h
    · intro _; exact h1
  · intro _; exact h2
theorem ev_rNodes (p : Pl) (hv : validE p = 0) (f : Int) (path : List Int) (hl : path.length ≤ 1000) : Ev Try.prog 17 [plV p, .sc (.int .i64 f), intsV path] (.tup [intsV (nodesE p f path).1, .sc (.int .i64 (nodesE p f path).2)]) := by
  have h4 := ev_Other p
  unfold plV intsV at *
  refine ev_fn Try.func17 comp17 (show 3 ≤ Try.f17.ntmps by decide) ?_; unfold cf17 rf17; simp only [↓EVP0, EVQ0, EVQ1, EVQ2, EVQ3, EVQ4, EVA, EVK, EVF, ↓reduceIte, Nat.reduceEqDiff, Nat.reduceAdd, Nat.reduceSub, Nat.reduceMul, Nat.reduceLT, Nat.reduceLeDiff, reduceCtorEq, Int.reduceToNat, Int.reduceLT, Int.reduceLE, Int.reduceAdd, Int.reduceSub, Int.reduceMul, Int.reduceNeg, Int.reduceEq, Nat.reduceMod, forall_eq_or_imp, forall_eq, forall_const, cond_true, cond_false, decide_true, decide_false, true_imp_iff, implies_true, Int.cast_ofNat_Int, forall_eq']
  rw [condT]
  refine ⟨fun hg => ?_, fun hg => ?_⟩
  · have hf : ¬ nodB p f = true := by
      unfold nodB
      simp only [Bool.or_eq_true, Bool.and_eq_true, decide_eq_true_eq] at hg ⊢
      omega
    have e : nodesE p f path = ([], 2) := by unfold nodesE; rw [if_pos hv, if_neg hf]
    rw [e]; simp
  have hf : nodB p f = true := by
    unfold nodB
    simp only [Bool.or_eq_false_iff, Bool.and_eq_true, decide_eq_true_eq, decide_eq_false_iff_not] at hg ⊢
    omega
  refine lwp_for (α := Unit) path.length (fun i _ => (path.take i).all (cabB p) = true) (fun i _ => [(1, .sc (.int .i64 f)), (2, .rsl 1 path.length (intsF path)), (3, .ptr 0 0 0 0 0), (8, .sc (.int .i64 i))])
    (fun _ _ => [(0, .box [.rsl 3 p.ns.length (ndsF p.ns), .rsl 6 p.cs.length (cbsF p.cs)])]) () rfl ?_ (fun _ _ => Nat.zero_le _) ?_
  · simp only [↓EVP0, EVQ0, EVQ1, EVQ2, EVQ3, EVQ4, EVA, EVK, EVF, ↓reduceIte, Nat.reduceEqDiff, Nat.reduceAdd, Nat.reduceSub, Nat.reduceMul, Nat.reduceLT, Nat.reduceLeDiff, reduceCtorEq, Int.reduceToNat, Int.reduceLT, Int.reduceLE, Int.reduceAdd, Int.reduceSub, Int.reduceMul, Int.reduceNeg, Int.reduceEq, Nat.reduceMod, forall_eq_or_imp, forall_eq, forall_const, cond_true, cond_false, decide_true, decide_false, true_imp_iff, implies_true, Int.cast_ofNat_Int, forall_eq']
  intro i _ hi hx
  unfold lb17_1
  simp only [↓EVP0, EVQ0, EVQ1, EVQ2, EVQ3, EVQ4, EVA, EVK, EVF, ↓reduceIte, Nat.reduceEqDiff, Nat.reduceAdd, Nat.reduceSub, Nat.reduceMul, Nat.reduceLT, Nat.reduceLeDiff, reduceCtorEq, Int.reduceToNat, Int.reduceLT, Int.reduceLE, Int.reduceAdd, Int.reduceSub, Int.reduceMul, Int.reduceNeg, Int.reduceEq, Nat.reduceMod, forall_eq_or_imp, forall_eq, forall_const, cond_true, cond_false, decide_true, decide_false, true_imp_iff, implies_true, Int.cast_ofNat_Int, forall_eq']
  refine fun _ => ⟨fun hg => ?_, fun hg => ?_⟩
  · have hi2 : i < path.length := by simpa using hg
    have ec : (bif decide (path.getD i 0 < 0) then true else decide ((p.cs.length : Int) ≤ path.getD i 0)) = !cabB p (path.getD i 0) := by
      rw [Bool.eq_iff_iff]
      unfold cabB
      simp only [condT, Bool.or_eq_true, Bool.not_eq_true', Bool.and_eq_false_iff, decide_eq_true_eq, decide_eq_false_iff_not]
      omega
    rw [ec]
    refine ⟨⟨by omega, by omega⟩, fun _ => ⟨by omega, by omega⟩, fun hg => ?_, fun hg => ⟨by unfold In64; omega, hi2, (), all_step 0 hi2 hx (by simpa using hg)⟩⟩
    have e : nodesE p f path = ([], 2) := by
      unfold nodesE; rw [if_pos hv, if_pos hf, if_neg (by rw [all_fail (q := cabB p) 0 hi2 (by simpa using hg)]; simp)]
    rw [e]; simp
  have hii : i = path.length := by have := of_decide_eq_false hg; omega
  subst hii
  have hP := all_len hx
  have hcab : ∀ j, j < path.length → 0 ≤ path.getD j 0 ∧ path.getD j 0 < p.cs.length := by
    intro j hj
    have := List.all_eq_true.1 hP _ (getD_mem 0 hj)
    unfold cabB at this
    simpa using this
  clear hx hi hg
  refine lwp_for (α := List Int × Int) path.length (fun i x => x.1.length = i ∧ wlk p.cs f path = (wlk p.cs x.2 (path.drop i)).map (x.1 ++ ·))
    (fun i x => [(2, .rsl 1 path.length (intsF path)), (3, .ptr 0 0 0 0 0), (9, .sl 1 i 1 0 (i + 1)), (10, .sc (.int .i64 x.2)), (11, .sc (.int .i64 i))])
    (fun i x => [(0, .box [.rsl 3 p.ns.length (ndsF p.ns), .rsl 6 p.cs.length (cbsF p.cs)]), (i, .ints (f :: x.1))]) ([], f) ⟨rfl, by simp⟩ ?_ (fun _ _ => Nat.zero_le _) ?_
  · simp only [↓EVP0, EVQ0, EVQ1, EVQ2, EVQ3, EVQ4, EVA, EVK, EVF, ↓reduceIte, Nat.reduceEqDiff, Nat.reduceAdd, Nat.reduceSub, Nat.reduceMul, Nat.reduceLT, Nat.reduceLeDiff, reduceCtorEq, Int.reduceToNat, Int.reduceLT, Int.reduceLE, Int.reduceAdd, Int.reduceSub, Int.reduceMul, Int.reduceNeg, Int.reduceEq, Nat.reduceMod, forall_eq_or_imp, forall_eq, forall_const, cond_true, cond_false, decide_true, decide_false, true_imp_iff, implies_true, Int.cast_ofNat_Int, forall_eq']
  rintro i ⟨acc, x⟩ hi ⟨ha, hx⟩
  simp only at ha hx
  unfold lb17_0
  simp only [↓EVP0, EVQ0, EVQ1, EVQ2, EVQ3, EVQ4, EVA, EVK, EVF, ↓reduceIte, Nat.reduceEqDiff, Nat.reduceAdd, Nat.reduceSub, Nat.reduceMul, Nat.reduceLT, Nat.reduceLeDiff, reduceCtorEq, Int.reduceToNat, Int.reduceLT, Int.reduceLE, Int.reduceAdd, Int.reduceSub, Int.reduceMul, Int.reduceNeg, Int.reduceEq, Nat.reduceMod, forall_eq_or_imp, forall_eq, forall_const, cond_true, cond_false, decide_true, decide_false, true_imp_iff, implies_true, Int.cast_ofNat_Int, forall_eq']
  refine fun _ => ⟨fun hg => ?_, fun hg => ?_⟩
  · have hi2 : i < path.length := by simpa using hg
    refine ⟨⟨by omega, by omega⟩, ?_⟩
    have hw : wlk p.cs x (path.drop i) = if (acrE (p.cs.getD (path.getD i 0).toNat default) x).2 = true then (wlk p.cs (acrE (p.cs.getD (path.getD i 0).toNat default) x).1 (path.drop (i + 1))).map ((acrE (p.cs.getD (path.getD i 0).toNat default) x).1 :: ·) else none := by
      rw [drop_getD 0 hi2]; rfl
    have hc := cs_in hv (hcab i hi2)
    have ho := other_acr x hc.1.1 hc.2.1
    have hin := fun h => acr_in hv (x := x) (hcab i hi2) h
    first | refine qCallK_ro (h4 _ _ (hcab i hi2).1 (hcab i hi2).2) ?_ ?_ | refine eCallK_ro (h4 _ _ (hcab i hi2).1 (hcab i hi2).2) ?_ ?_
    · simp only [↓EVP0, EVQ0, EVQ1, EVQ2, EVQ3, EVQ4, EVA, EVK, EVF, ↓reduceIte, Nat.reduceEqDiff, Nat.reduceAdd, Nat.reduceSub, Nat.reduceMul, Nat.reduceLT, Nat.reduceLeDiff, reduceCtorEq, Int.reduceToNat, Int.reduceLT, Int.reduceLE, Int.reduceAdd, Int.reduceSub, Int.reduceMul, Int.reduceNeg, Int.reduceEq, Nat.reduceMod, forall_eq_or_imp, forall_eq, forall_const, cond_true, cond_false, decide_true, decide_false, true_imp_iff, implies_true, Int.cast_ofNat_Int, forall_eq']
    simp only [↓EVP0, EVQ0, EVQ1, EVQ2, EVQ3, EVQ4, EVA, EVK, EVF, ↓reduceIte, Nat.reduceEqDiff, Nat.reduceAdd, Nat.reduceSub, Nat.reduceMul, Nat.reduceLT, Nat.reduceLeDiff, reduceCtorEq, Int.reduceToNat, Int.reduceLT, Int.reduceLE, Int.reduceAdd, Int.reduceSub, Int.reduceMul, Int.reduceNeg, Int.reduceEq, Nat.reduceMod, forall_eq_or_imp, forall_eq, forall_const, cond_true, cond_false, decide_true, decide_false, true_imp_iff, implies_true, Int.cast_ofNat_Int, forall_eq']
    rw [ho]
    generalize hq : acrE (p.cs.getD (path.getD i 0).toNat default) x = q at *
    refine ⟨fun h => ?_, fun h => ?_⟩
    · have h' : ¬ q.2 = true := by
        intro h2; rw [if_pos h2] at h; have := (hin h2).1; simp at h; omega
      rw [if_neg h'] at hw
      have e : nodesE p f path = ([], 12) := by
        unfold nodesE; rw [if_pos hv, if_pos hf, if_pos hP, hx, hw]; rfl
      rw [e]; simp
    · have h' : q.2 = true := by
        rcases Bool.eq_false_or_eq_true q.2 with h2 | h2
        · exact h2
        · rw [h2] at h; simp at h
      rw [if_pos h'] at hw ⊢
      refine ⟨by omega, by unfold appRoom; omega, by unfold In64; omega, hi2, (acc ++ [q.1], q.1), ⟨by simp [ha], ?_⟩, rfl, by rw [List.take_of_length_le (by omega)]⟩
      rw [hx, hw]
      cases wlk p.cs q.1 (path.drop (i + 1)) <;> simp
  · have hii : i = path.length := by have := of_decide_eq_false hg; omega
    subst hii
    rw [List.drop_length] at hx
    have e : nodesE p f path = (f :: acc, 0) := by
      unfold nodesE; rw [if_pos hv, if_pos hf, if_pos hP, hx]; simp [wlk]
    rw [e]
    exact ⟨⟨by simp [ha], by omega, fun j hj => rfl⟩, rfl⟩
end Go.Proofs.Ytibpkgopbecfoaa
namespace Go.Proofs.Ytibpkgopbecfoaa
set_option linter.unusedSimpArgs false
set_option linter.unusedVariables false
open Go.RowKit
set_option maxRecDepth 20000

theorem ev_step (l : List Int) (x : Int) (f : Bool) (y : Int) : Ev Try.prog 51 [.agg [intsV l], .agg [.sc (.int .i64 x), .sc (.bool f)], .sc (.int .i64 y)] (.tup [.agg [.sc (.int .i64 y), .sc (.bool (!aboveB l y x))], .sc (.bool (!aboveB l y x || !f))]) := by
  have h1 := ev_above l y x
  unfold intsV at *
  refine ev_fn Try.func51 comp51 (show 3 ≤ Try.f51.ntmps by decide) ?_; unfold cf51 rf51; simp only [↓EVP0, EVQ0, EVQ1, EVQ2, EVQ3, EVQ4, EVA, EVK, EVF, ↓reduceIte, Nat.reduceEqDiff, Nat.reduceAdd, Nat.reduceSub, Nat.reduceMul, Nat.reduceLT, Nat.reduceLeDiff, reduceCtorEq, Int.reduceToNat, Int.reduceLT, Int.reduceLE, Int.reduceAdd, Int.reduceSub, Int.reduceMul, Int.reduceNeg, Int.reduceEq, Nat.reduceMod, forall_eq_or_imp, forall_eq, forall_const, cond_true, cond_false, decide_true, decide_false, true_imp_iff, implies_true, Int.cast_ofNat_Int, forall_eq']
  refine callK_ro (h1) ?_ ?_
  · simp only [↓EVP0, EVQ0, EVQ1, EVQ2, EVQ3, EVQ4, EVA, EVK, EVF, ↓reduceIte, Nat.reduceEqDiff, Nat.reduceAdd, Nat.reduceSub, Nat.reduceMul, Nat.reduceLT, Nat.reduceLeDiff, reduceCtorEq, Int.reduceToNat, Int.reduceLT, Int.reduceLE, Int.reduceAdd, Int.reduceSub, Int.reduceMul, Int.reduceNeg, Int.reduceEq, Nat.reduceMod, forall_eq_or_imp, forall_eq, forall_const, cond_true, cond_false, decide_true, decide_false, true_imp_iff, implies_true, Int.cast_ofNat_Int, forall_eq']
  simp only [↓EVP0, EVQ0, EVQ1, EVQ2, EVQ3, EVQ4, EVA, EVK, EVF, ↓reduceIte, Nat.reduceEqDiff, Nat.reduceAdd, Nat.reduceSub, Nat.reduceMul, Nat.reduceLT, Nat.reduceLeDiff, reduceCtorEq, Int.reduceToNat, Int.reduceLT, Int.reduceLE, Int.reduceAdd, Int.reduceSub, Int.reduceMul, Int.reduceNeg, Int.reduceEq, Nat.reduceMod, forall_eq_or_imp, forall_eq, forall_const, cond_true, cond_false, decide_true, decide_false, true_imp_iff, implies_true, Int.cast_ofNat_Int, forall_eq']
  simp only [condT]
def stpE (l : List Int) (x y : Int) : Int := bif aboveB l y x then 1 else bif aboveB l x y then 2 else 0
theorem ev_Step (l : List Int) (x y : Int) : Ev Try.prog 53 [intsV l, .sc (.int .i64 x), .sc (.int .i64 y)] (.sc (.int .i64 (stpE l x y))) := by
  have h1 := ev_refAbove l
  unfold intsV at *
  refine ev_fn Try.func53 comp53 (show 3 ≤ Try.f53.ntmps by decide) ?_; unfold cf53 rf53; simp only [↓EVP0, EVQ0, EVQ1, EVQ2, EVQ3, EVQ4, EVA, EVK, EVF, ↓reduceIte, Nat.reduceEqDiff, Nat.reduceAdd, Nat.reduceSub, Nat.reduceMul, Nat.reduceLT, Nat.reduceLeDiff, reduceCtorEq, Int.reduceToNat, Int.reduceLT, Int.reduceLE, Int.reduceAdd, Int.reduceSub, Int.reduceMul, Int.reduceNeg, Int.reduceEq, Nat.reduceMod, forall_eq_or_imp, forall_eq, forall_const, cond_true, cond_false, decide_true, decide_false, true_imp_iff, implies_true, Int.cast_ofNat_Int, forall_eq']
  refine callK_ro (h1 y x) ?_ ?_
  · simp only [↓EVP0, EVQ0, EVQ1, EVQ2, EVQ3, EVQ4, EVA, EVK, EVF, ↓reduceIte, Nat.reduceEqDiff, Nat.reduceAdd, Nat.reduceSub, Nat.reduceMul, Nat.reduceLT, Nat.reduceLeDiff, reduceCtorEq, Int.reduceToNat, Int.reduceLT, Int.reduceLE, Int.reduceAdd, Int.reduceSub, Int.reduceMul, Int.reduceNeg, Int.reduceEq, Nat.reduceMod, forall_eq_or_imp, forall_eq, forall_const, cond_true, cond_false, decide_true, decide_false, true_imp_iff, implies_true, Int.cast_ofNat_Int, forall_eq']
  simp only [↓EVP0, EVQ0, EVQ1, EVQ2, EVQ3, EVQ4, EVA, EVK, EVF, ↓reduceIte, Nat.reduceEqDiff, Nat.reduceAdd, Nat.reduceSub, Nat.reduceMul, Nat.reduceLT, Nat.reduceLeDiff, reduceCtorEq, Int.reduceToNat, Int.reduceLT, Int.reduceLE, Int.reduceAdd, Int.reduceSub, Int.reduceMul, Int.reduceNeg, Int.reduceEq, Nat.reduceMod, forall_eq_or_imp, forall_eq, forall_const, cond_true, cond_false, decide_true, decide_false, true_imp_iff, implies_true, Int.cast_ofNat_Int, forall_eq']
  unfold stpE
  refine ⟨fun h => by rw [h]; rfl, fun h => ?_⟩
  refine callK_ro (h1 x y) ?_ ?_
  · simp only [↓EVP0, EVQ0, EVQ1, EVQ2, EVQ3, EVQ4, EVA, EVK, EVF, ↓reduceIte, Nat.reduceEqDiff, Nat.reduceAdd, Nat.reduceSub, Nat.reduceMul, Nat.reduceLT, Nat.reduceLeDiff, reduceCtorEq, Int.reduceToNat, Int.reduceLT, Int.reduceLE, Int.reduceAdd, Int.reduceSub, Int.reduceMul, Int.reduceNeg, Int.reduceEq, Nat.reduceMod, forall_eq_or_imp, forall_eq, forall_const, cond_true, cond_false, decide_true, decide_false, true_imp_iff, implies_true, Int.cast_ofNat_Int, forall_eq']
  simp only [↓EVP0, EVQ0, EVQ1, EVQ2, EVQ3, EVQ4, EVA, EVK, EVF, ↓reduceIte, Nat.reduceEqDiff, Nat.reduceAdd, Nat.reduceSub, Nat.reduceMul, Nat.reduceLT, Nat.reduceLeDiff, reduceCtorEq, Int.reduceToNat, Int.reduceLT, Int.reduceLE, Int.reduceAdd, Int.reduceSub, Int.reduceMul, Int.reduceNeg, Int.reduceEq, Nat.reduceMod, forall_eq_or_imp, forall_eq, forall_const, cond_true, cond_false, decide_true, decide_false, true_imp_iff, implies_true, Int.cast_ofNat_Int, forall_eq']
  refine ⟨fun h2 => by rw [h, h2]; rfl, fun h2 => by rw [h, h2]; rfl⟩
theorem wlk_get {cs : List Cb} : ∀ {path : List Int} {x : Int} {l : List Int}, wlk cs x path = some l → l.length = path.length ∧ ∀ i, i < path.length → (acrE (cs.getD (path.getD i 0).toNat default) ((x :: l).getD i 0)).2 = true ∧ (x :: l).getD (i + 1) 0 = (acrE (cs.getD (path.getD i 0).toNat default) ((x :: l).getD i 0)).1
  | [], x, l, h => by
    simp only [wlk, Option.some.injEq] at h
    subst h
    exact ⟨rfl, fun i hi => by simp at hi⟩
  | c :: r, x, l, h => by
    unfold wlk at h
    split at h
    · rename_i ho
      obtain ⟨l', h1, rfl⟩ := Option.map_eq_some_iff.1 h
      obtain ⟨h2, h3⟩ := wlk_get h1
      refine ⟨by simp [h2], fun i hi => ?_⟩
      cases i with
      | zero => exact ⟨ho, rfl⟩
      | succ i =>
        have := h3 i (by simpa using hi)
        simpa only [List.getD_cons_succ] using this
    · simp at h
theorem nodes_ok {p : Pl} {f : Int} {path : List Int} (h : (nodesE p f path).2 = 0) : validE p = 0 ∧ nodB p f = true ∧ path.all (cabB p) = true ∧ ∃ l, wlk p.cs f path = some l ∧ nodesE p f path = (f :: l, 0) := by
  unfold nodesE at h ⊢
  by_cases h1 : validE p = 0
  · rw [if_pos h1] at h ⊢
    by_cases h2 : nodB p f = true
    · rw [if_pos h2] at h ⊢
      by_cases h3 : path.all (cabB p) = true
      · rw [if_pos h3] at h ⊢
        cases hw : wlk p.cs f path with
        | none => rw [hw] at h; simp at h
        | some l => exact ⟨h1, h2, h3, l, rfl, rfl⟩
      · rw [if_neg h3] at h; simp at h
    · rw [if_neg h2] at h; simp at h
  · rw [if_neg h1] at h; simp at h
theorem nodB_in {p : Pl} {x : Int} (h : nodB p x = true) : inN p.ns.length x := by
  unfold nodB at h
  simp only [Bool.and_eq_true, decide_eq_true_eq] at h
  exact h
theorem wlk_in {p : Pl} (hv : validE p = 0) : ∀ {path : List Int} {x : Int} {l : List Int}, path.all (cabB p) = true → wlk p.cs x path = some l → ∀ y, y ∈ l → inN p.ns.length y
  | [], x, l, _, h => by
    simp only [wlk, Option.some.injEq] at h
    subst h
    intro y hy; simp at hy
  | c :: r, x, l, hc, h => by
    simp only [List.all_cons, Bool.and_eq_true] at hc
    unfold wlk at h
    split at h
    · rename_i ho
      obtain ⟨l', h1, rfl⟩ := Option.map_eq_some_iff.1 h
      intro y hy
      rcases List.mem_cons.1 hy with rfl | hy
      · have := hc.1
        unfold cabB at this
        simp only [Bool.and_eq_true, decide_eq_true_eq] at this
        exact acr_in hv this ho
      · exact wlk_in hv hc.2 h1 y hy
    · simp at h
/-- The steps of a path lead first upward, then downward, and none goes back over its cable. -/
def lgl (l : List Int) (cs : List Cb) : Int → Bool → Option Int → List Int → Bool
  | _, _, _, [] => true
  | x, fl, pr, c :: r => ((!aboveB l (acrE (cs.getD c.toNat default) x).1 x || !fl) && !decide (pr = some c)) && lgl l cs (acrE (cs.getD c.toNat default) x).1 (!aboveB l (acrE (cs.getD c.toNat default) x).1 x) (some c) r
def lvs (l : List Int) (ns : List Int) : Bool := ns.all fun x => decide (0 ≤ lvl l x)
def legalE (p : Pl) (l : List Int) (f : Int) (path : List Int) : Bool :=
  ordB p l && (decide ((nodesE p f path).2 = 0) && (lvs l (nodesE p f path).1 && lgl l p.cs f false none path))
def prv (path : List Int) (i : Nat) : Option Int := if i = 0 then none else some (path.getD (i - 1) 0)
theorem ev_legal (p : Pl) (hp : PlOk p) (l : List Int) (f : Int) (path : List Int) (hl : path.length ≤ 1000) : Ev Try.prog 19 [plV p, .agg [intsV l], .sc (.int .i64 f), intsV path] (.sc (.bool (legalE p l f path))) := by
  have h1 := ev_ordValid p hp l
  have h2 := ev_nodes p hp f path hl
  have h3 := ev_step l
  unfold plV intsV at *
  refine ev_fn Try.func19 comp19 (show 4 ≤ Try.f19.ntmps by decide) ?_; unfold cf19 rf19; simp only [↓EVP0, EVQ0, EVQ1, EVQ2, EVQ3, EVQ4, EVA, EVK, EVF, ↓reduceIte, Nat.reduceEqDiff, Nat.reduceAdd, Nat.reduceSub, Nat.reduceMul, Nat.reduceLT, Nat.reduceLeDiff, reduceCtorEq, Int.reduceToNat, Int.reduceLT, Int.reduceLE, Int.reduceAdd, Int.reduceSub, Int.reduceMul, Int.reduceNeg, Int.reduceEq, Nat.reduceMod, forall_eq_or_imp, forall_eq, forall_const, cond_true, cond_false, decide_true, decide_false, true_imp_iff, implies_true, Int.cast_ofNat_Int, forall_eq']
  refine callK_ro (h1) ?_ ?_
  · simp only [↓EVP0, EVQ0, EVQ1, EVQ2, EVQ3, EVQ4, EVA, EVK, EVF, ↓reduceIte, Nat.reduceEqDiff, Nat.reduceAdd, Nat.reduceSub, Nat.reduceMul, Nat.reduceLT, Nat.reduceLeDiff, reduceCtorEq, Int.reduceToNat, Int.reduceLT, Int.reduceLE, Int.reduceAdd, Int.reduceSub, Int.reduceMul, Int.reduceNeg, Int.reduceEq, Nat.reduceMod, forall_eq_or_imp, forall_eq, forall_const, cond_true, cond_false, decide_true, decide_false, true_imp_iff, implies_true, Int.cast_ofNat_Int, forall_eq']
  simp only [↓EVP0, EVQ0, EVQ1, EVQ2, EVQ3, EVQ4, EVA, EVK, EVF, ↓reduceIte, Nat.reduceEqDiff, Nat.reduceAdd, Nat.reduceSub, Nat.reduceMul, Nat.reduceLT, Nat.reduceLeDiff, reduceCtorEq, Int.reduceToNat, Int.reduceLT, Int.reduceLE, Int.reduceAdd, Int.reduceSub, Int.reduceMul, Int.reduceNeg, Int.reduceEq, Nat.reduceMod, forall_eq_or_imp, forall_eq, forall_const, cond_true, cond_false, decide_true, decide_false, true_imp_iff, implies_true, Int.cast_ofNat_Int, forall_eq']
  refine ⟨fun h => ?_, fun h => ?_⟩
  · unfold legalE; simp at h; rw [h]; rfl
  have ho : ordB p l = true := by simpa using h
  have hO := ord_of ho
  refine callK_ro (h2) ?_ ?_
  · simp only [↓EVP0, EVQ0, EVQ1, EVQ2, EVQ3, EVQ4, EVA, EVK, EVF, ↓reduceIte, Nat.reduceEqDiff, Nat.reduceAdd, Nat.reduceSub, Nat.reduceMul, Nat.reduceLT, Nat.reduceLeDiff, reduceCtorEq, Int.reduceToNat, Int.reduceLT, Int.reduceLE, Int.reduceAdd, Int.reduceSub, Int.reduceMul, Int.reduceNeg, Int.reduceEq, Nat.reduceMod, forall_eq_or_imp, forall_eq, forall_const, cond_true, cond_false, decide_true, decide_false, true_imp_iff, implies_true, Int.cast_ofNat_Int, forall_eq']
  simp only [↓EVP0, EVQ0, EVQ1, EVQ2, EVQ3, EVQ4, EVA, EVK, EVF, ↓reduceIte, Nat.reduceEqDiff, Nat.reduceAdd, Nat.reduceSub, Nat.reduceMul, Nat.reduceLT, Nat.reduceLeDiff, reduceCtorEq, Int.reduceToNat, Int.reduceLT, Int.reduceLE, Int.reduceAdd, Int.reduceSub, Int.reduceMul, Int.reduceNeg, Int.reduceEq, Nat.reduceMod, forall_eq_or_imp, forall_eq, forall_const, cond_true, cond_false, decide_true, decide_false, true_imp_iff, implies_true, Int.cast_ofNat_Int, forall_eq']
  refine ⟨fun h => ?_, fun h => ?_⟩
  · have h' : ¬ (nodesE p f path).2 = 0 := by simpa using h
    unfold legalE; rw [decide_eq_false h']; simp
  have hn : (nodesE p f path).2 = 0 := by simpa using h
  obtain ⟨hv, hf, hP, ns, hw, he⟩ := nodes_ok hn
  obtain ⟨hw1, hw2⟩ := wlk_get hw
  have hwi := wlk_in hv hP hw
  rw [he]
  simp only
  have hin : ∀ i, i < (f :: ns).length → inN p.ns.length ((f :: ns).getD i 0) := by
    intro i hi
    cases i with
    | zero => exact nodB_in hf
    | succ i => rw [List.getD_cons_succ]; exact hwi _ (getD_mem 0 (by simpa using hi))
  intro _
  refine lwp_for (α := Unit) (ns.length + 1) (fun i _ => lvs l ((f :: ns).take i) = true) (fun i _ => [(2, .sc (.int .i64 f)), (3, .rsl 1 path.length (intsF path)), (5, .ptr 1 0 0 0 0), (9, .rsl 1 (ns.length + 1) (intsF (f :: ns))), (31, .rsl 1 (ns.length + 1) (intsF (f :: ns))), (32, .sc (.int .i64 ((ns.length + 1 : Nat) : Int))), (33, .sc (.int .i64 i))])
    (fun _ _ => [(0, .box [.rsl 3 p.ns.length (ndsF p.ns), .rsl 6 p.cs.length (cbsF p.cs)]), (0, .box [.rsl 1 l.length (intsF l)])]) () rfl ?_ (fun _ _ => Nat.zero_le _) ?_
  · simp only [↓EVP0, EVQ0, EVQ1, EVQ2, EVQ3, EVQ4, EVA, EVK, EVF, ↓reduceIte, Nat.reduceEqDiff, Nat.reduceAdd, Nat.reduceSub, Nat.reduceMul, Nat.reduceLT, Nat.reduceLeDiff, reduceCtorEq, Int.reduceToNat, Int.reduceLT, Int.reduceLE, Int.reduceAdd, Int.reduceSub, Int.reduceMul, Int.reduceNeg, Int.reduceEq, Nat.reduceMod, forall_eq_or_imp, forall_eq, forall_const, cond_true, cond_false, decide_true, decide_false, true_imp_iff, implies_true, Int.cast_ofNat_Int, forall_eq']
  intro i _ hi hx
  unfold lb19_1
  simp only [↓EVP0, EVQ0, EVQ1, EVQ2, EVQ3, EVQ4, EVA, EVK, EVF, ↓reduceIte, Nat.reduceEqDiff, Nat.reduceAdd, Nat.reduceSub, Nat.reduceMul, Nat.reduceLT, Nat.reduceLeDiff, reduceCtorEq, Int.reduceToNat, Int.reduceLT, Int.reduceLE, Int.reduceAdd, Int.reduceSub, Int.reduceMul, Int.reduceNeg, Int.reduceEq, Nat.reduceMod, forall_eq_or_imp, forall_eq, forall_const, cond_true, cond_false, decide_true, decide_false, true_imp_iff, implies_true, Int.cast_ofNat_Int, forall_eq']
  refine ⟨fun hg => ?_, fun hg => ?_⟩
  · have hi2 : i < (f :: ns).length := by have := of_decide_eq_true hg; simp; omega
    have hy := hin i hi2
    have hyl := hO.len
    unfold inN at hy
    refine ⟨⟨by omega, by simp at hi2; omega⟩, ⟨by omega, by omega⟩, fun h => ?_, fun h => ⟨by unfold In64; omega, by simpa using hi2, (), ?_⟩⟩
    · have : lvs l (nodesE p f path).1 = false := by
        rw [he]
        show lvs l (f :: ns) = false
        exact all_fail (q := fun x => decide (0 ≤ lvl l x)) 0 hi2 (by
          have : l.getD ((f :: ns).getD i 0).toNat 0 < 0 := of_decide_eq_true h
          exact decide_eq_false (by unfold lvl; omega))
      unfold legalE; rw [this]; simp
    · exact all_step (q := fun x => decide (0 ≤ lvl l x)) 0 hi2 hx (by
        have : ¬ l.getD ((f :: ns).getD i 0).toNat 0 < 0 := of_decide_eq_false h
        exact decide_eq_true (by unfold lvl; omega))
  have hii : i = (f :: ns).length := by have := of_decide_eq_false hg; simp at hi ⊢; omega
  subst hii
  rw [List.take_length] at hx
  have hL : legalE p l f path = lgl l p.cs f false none path := by
    unfold legalE; rw [ho, he]; simp [hx]
  clear hi hg
  intro _
  refine lwp_for (α := Bool) path.length (fun i fl => lgl l p.cs f false none path = lgl l p.cs ((f :: ns).getD i 0) fl (prv path i) (path.drop i)) (fun i _ => [(3, .rsl 1 path.length (intsF path)), (5, .ptr 1 0 0 0 0), (9, .rsl 1 (ns.length + 1) (intsF (f :: ns))), (13, .ptr 2 0 0 0 0), (46, .rsl 1 path.length (intsF path)), (47, .sc (.int .i64 path.length)), (48, .sc (.int .i64 i))])
    (fun i fl => [(0, .box [.rsl 3 p.ns.length (ndsF p.ns), .rsl 6 p.cs.length (cbsF p.cs)]), (0, .box [.rsl 1 l.length (intsF l)]), (0, .box [.sc (.int .i64 ((f :: ns).getD i 0)), .sc (.bool fl)])]) false rfl ?_ (fun _ _ => Nat.zero_le _) ?_
  · simp only [↓EVP0, EVQ0, EVQ1, EVQ2, EVQ3, EVQ4, EVA, EVK, EVF, ↓reduceIte, Nat.reduceEqDiff, Nat.reduceAdd, Nat.reduceSub, Nat.reduceMul, Nat.reduceLT, Nat.reduceLeDiff, reduceCtorEq, Int.reduceToNat, Int.reduceLT, Int.reduceLE, Int.reduceAdd, Int.reduceSub, Int.reduceMul, Int.reduceNeg, Int.reduceEq, Nat.reduceMod, forall_eq_or_imp, forall_eq, forall_const, cond_true, cond_false, decide_true, decide_false, true_imp_iff, implies_true, Int.cast_ofNat_Int, forall_eq']
  intro i fl hi hx2
  unfold lb19_0
  simp only [↓EVP0, EVQ0, EVQ1, EVQ2, EVQ3, EVQ4, EVA, EVK, EVF, ↓reduceIte, Nat.reduceEqDiff, Nat.reduceAdd, Nat.reduceSub, Nat.reduceMul, Nat.reduceLT, Nat.reduceLeDiff, reduceCtorEq, Int.reduceToNat, Int.reduceLT, Int.reduceLE, Int.reduceAdd, Int.reduceSub, Int.reduceMul, Int.reduceNeg, Int.reduceEq, Nat.reduceMod, forall_eq_or_imp, forall_eq, forall_const, cond_true, cond_false, decide_true, decide_false, true_imp_iff, implies_true, Int.cast_ofNat_Int, forall_eq']
  refine ⟨fun hg => ?_, fun hg => ?_⟩
  · have hi2 : i < path.length := by have := of_decide_eq_true hg; omega
    refine ⟨⟨by omega, by omega⟩, by unfold In64; omega, ⟨by omega, by omega⟩, ?_⟩
    obtain ⟨g1, g2⟩ := hw2 i hi2
    first | refine qCallK_ro (h3 _ _ _) ?_ ?_ | refine eCallK_ro (h3 _ _ _) ?_ ?_
    · simp only [↓EVP0, EVQ0, EVQ1, EVQ2, EVQ3, EVQ4, EVA, EVK, EVF, ↓reduceIte, Nat.reduceEqDiff, Nat.reduceAdd, Nat.reduceSub, Nat.reduceMul, Nat.reduceLT, Nat.reduceLeDiff, reduceCtorEq, Int.reduceToNat, Int.reduceLT, Int.reduceLE, Int.reduceAdd, Int.reduceSub, Int.reduceMul, Int.reduceNeg, Int.reduceEq, Nat.reduceMod, forall_eq_or_imp, forall_eq, forall_const, cond_true, cond_false, decide_true, decide_false, true_imp_iff, implies_true, Int.cast_ofNat_Int, forall_eq']
    simp only [↓EVP0, EVQ0, EVQ1, EVQ2, EVQ3, EVQ4, EVA, EVK, EVF, ↓reduceIte, Nat.reduceEqDiff, Nat.reduceAdd, Nat.reduceSub, Nat.reduceMul, Nat.reduceLT, Nat.reduceLeDiff, reduceCtorEq, Int.reduceToNat, Int.reduceLT, Int.reduceLE, Int.reduceAdd, Int.reduceSub, Int.reduceMul, Int.reduceNeg, Int.reduceEq, Nat.reduceMod, forall_eq_or_imp, forall_eq, forall_const, cond_true, cond_false, decide_true, decide_false, true_imp_iff, implies_true, Int.cast_ofNat_Int, forall_eq']
    rw [show ((i : Int) + 1).toNat = i + 1 by omega, List.getD_cons_succ]
    rw [List.getD_cons_succ] at g2
    generalize (f :: ns).getD i 0 = x at *
    have hst : lgl l p.cs x fl (prv path i) (path.drop i) = (((!aboveB l (ns.getD i 0) x || !fl) && !decide (prv path i = some (path.getD i 0))) && lgl l p.cs (ns.getD i 0) (!aboveB l (ns.getD i 0) x) (some (path.getD i 0)) (path.drop (i + 1))) := by
      rw [drop_getD 0 hi2, g2]; rfl
    generalize ns.getD i 0 = y at *
    have hpr : (bif decide (0 < (i : Int)) then decide (path.getD i 0 = path.getD ((i : Int) - 1).toNat 0) else false) = decide (prv path i = some (path.getD i 0)) := by
      unfold prv
      rw [Bool.eq_iff_iff]
      by_cases h0 : i = 0
      · subst h0; simp
      · rw [if_neg h0, show ((i : Int) - 1).toNat = i - 1 by omega]
        simp only [condF, Bool.and_eq_true, decide_eq_true_eq, Option.some.injEq]
        constructor
        · rintro ⟨_, h⟩; exact h.symm
        · intro h; exact ⟨by omega, h.symm⟩
    refine ⟨fun _ => by unfold In64; omega, fun h => ?_, ?_⟩
    · simp only [Bool.and_eq_true, decide_eq_true_eq] at h; omega
    rw [hpr]
    refine ⟨fun h => ?_, fun h => ?_⟩
    · rw [hL, hx2, hst]
      revert h
      cases (!aboveB l y x || !fl) <;> cases decide (prv path i = some (path.getD i 0)) <;> simp
    · refine ⟨by unfold In64; omega, hi2, !aboveB l y x, ?_, rfl⟩
      rw [hx2, hst, show prv path (i + 1) = some (path.getD i 0) from rfl]
      revert h
      cases (!aboveB l y x || !fl) <;> cases decide (prv path i = some (path.getD i 0)) <;> simp
  have hii : i = path.length := by have := of_decide_eq_false hg; omega
  subst hii
  rw [List.drop_length] at hx2
  rw [hL, hx2]; rfl
/-- The reference's steps. -/
def rlg (l : List Int) (cs : List Cb) : Int → Bool → Option Int → List Int → Bool
  | _, _, _, [] => true
  | x, fl, pr, c :: r => (!decide (stpE l x (acrE (cs.getD c.toNat default) x).1 = 0) && (!(decide (stpE l x (acrE (cs.getD c.toNat default) x).1 = 1) && fl) && !decide (pr = some c))) && rlg l cs (acrE (cs.getD c.toNat default) x).1 (fl || decide (stpE l x (acrE (cs.getD c.toNat default) x).1 = 2)) (some c) r
def rlegE (p : Pl) (l : List Int) (f : Int) (path : List Int) : Bool := decide ((nodesE p f path).2 = 0) && (decide (0 ≤ lvl l f) && rlg l p.cs f false none path)
theorem acr_ne {p : Pl} (hv : validE p = 0) {i x : Int} (h : 0 ≤ i ∧ i < p.cs.length) (ho : (acrE (p.cs.getD i.toNat default) x).2 = true) : (acrE (p.cs.getD i.toNat default) x).1 ≠ x := by
  have hs := (valid_of hv).self _ (cs_mem h.1 h.2)
  unfold acrE at *
  generalize p.cs.getD i.toNat default = c at *
  by_cases h1 : x = c.a
  · rw [decide_eq_true h1]; simp only [cond_true]; intro e; exact hs (by rw [e, h1])
  · rw [decide_eq_false h1] at ho ⊢
    by_cases h2 : x = c.b
    · rw [decide_eq_true h2]; simp only [cond_true, cond_false]; intro e; exact hs (by rw [e, h2])
    · rw [decide_eq_false h2] at ho; simp at ho
theorem hasB_iff {l : List Int} {n : Nat} (hl : l.length = n) {x : Int} (hx : inN n x) : hasB l x = decide (0 ≤ lvl l x) := by
  unfold hasB lvl inN at *
  rw [decide_eq_true (show 0 ≤ x by omega), decide_eq_true (show x < l.length by omega)]; rfl
theorem above_iff {l : List Int} {n : Nat} (hl : l.length = n) {x y : Int} (hx : inN n x) (hy : inN n y) : aboveB l x y = true ↔ 0 ≤ lvl l x ∧ 0 ≤ lvl l y ∧ (lvl l x < lvl l y ∨ lvl l x = lvl l y ∧ x < y) := by
  unfold aboveB
  rw [hasB_iff hl hx, hasB_iff hl hy]
  show ((decide (0 ≤ lvl l x)) && (decide (0 ≤ lvl l y) && (decide (lvl l x < lvl l y) || (decide (lvl l x = lvl l y) && decide (x < y))))) = true ↔ _
  simp only [Bool.and_eq_true, Bool.or_eq_true, decide_eq_true_eq]
theorem rlg_eq {p : Pl} (hv : validE p = 0) {l : List Int} (hl : l.length = p.ns.length) : ∀ {path : List Int} {x : Int} {fl : Bool} {pr : Option Int} {ns : List Int}, path.all (cabB p) = true → inN p.ns.length x → 0 ≤ lvl l x → wlk p.cs x path = some ns → (lvs l ns && lgl l p.cs x fl pr path) = rlg l p.cs x fl pr path
  | [], x, fl, pr, ns, _, _, _, h => by
    simp only [wlk, Option.some.injEq] at h
    subst h
    rfl
  | c :: r, x, fl, pr, ns, hc, hx, h0, h => by
    simp only [List.all_cons, Bool.and_eq_true] at hc
    have hcc := hc.1
    unfold cabB at hcc
    simp only [Bool.and_eq_true, decide_eq_true_eq] at hcc
    unfold wlk at h
    split at h
    · rename_i ho
      obtain ⟨l', h1, rfl⟩ := Option.map_eq_some_iff.1 h
      have hy := acr_in hv hcc ho
      have hne := acr_ne hv hcc ho
      unfold lgl rlg
      generalize (acrE (p.cs.getD c.toNat default) x).1 = y at *
      by_cases h2 : 0 ≤ lvl l y
      · have ih := rlg_eq hv hl (fl := !aboveB l y x) (pr := some c) hc.2 hy h2 h1
        have hlv : lvs l (y :: l') = lvs l l' := by unfold lvs; rw [List.all_cons, decide_eq_true h2]; rfl
        rw [hlv]
        by_cases hu : aboveB l y x = true
        · have hs : stpE l x y = 1 := by unfold stpE; rw [hu]; rfl
          rw [hu] at ih
          rw [hs, hu]
          have hfin : ∀ (A L D R : Bool), (A && L) = R → (A && (!D && L)) = (!D && R) := by
            intro A L D R h; subst h; cases A <;> cases L <;> cases D <;> rfl
          cases fl
          · simp at ih ⊢
            exact hfin _ _ _ _ ih
          · simp
        · have hu' : aboveB l y x = false := by simpa using hu
          have hd : aboveB l x y = true := by
            rw [above_iff hl hx hy]
            rw [above_iff hl hy hx] at hu
            omega
          have hs : stpE l x y = 2 := by unfold stpE; rw [hu', hd]; rfl
          have hfin : ∀ (A L D R : Bool), (A && L) = R → (A && (!D && L)) = (!D && R) := by
            intro A L D R h; subst h; cases A <;> cases L <;> cases D <;> rfl
          rw [hu'] at ih
          rw [hs, hu']
          simp at ih ⊢
          exact hfin _ _ _ _ ih
      · have hlv : lvs l (y :: l') = false := by unfold lvs; rw [List.all_cons, decide_eq_false h2]; rfl
        have e1 : aboveB l y x = false := by
          cases hq : aboveB l y x
          · rfl
          · rw [above_iff hl hy hx] at hq; omega
        have e2 : aboveB l x y = false := by
          cases hq : aboveB l x y
          · rfl
          · rw [above_iff hl hx hy] at hq; omega
        have hs : stpE l x y = 0 := by unfold stpE; rw [e1, e2]; rfl
        rw [hlv, hs]; rfl
    · simp at h
theorem legal_ref {p : Pl} {l : List Int} (ho : ordB p l = true) (f : Int) (path : List Int) : legalE p l f path = rlegE p l f path := by
  unfold legalE rlegE
  rw [ho, Bool.true_and]
  by_cases hn : (nodesE p f path).2 = 0
  · rw [decide_eq_true hn]
    obtain ⟨hv, hf, hP, ns, hw, he⟩ := nodes_ok hn
    rw [he]
    have hfi := nodB_in hf
    by_cases h0 : 0 ≤ lvl l f
    · have := rlg_eq hv (ord_of ho).len (fl := false) (pr := none) hP hfi h0 hw
      rw [decide_eq_true h0, Bool.true_and, Bool.true_and, Bool.true_and, ← this]
      show (lvs l (f :: ns) && _) = _
      unfold lvs; rw [List.all_cons, decide_eq_true h0, Bool.true_and]
    · rw [decide_eq_false h0]
      have : lvs l (f :: ns) = false := by unfold lvs; rw [List.all_cons, decide_eq_false h0]; rfl
      show (true && (lvs l (f :: ns) && _)) = _
      rw [this]; rfl
  · rw [decide_eq_false hn]; rfl
end Go.Proofs.Ytibpkgopbecfoaa
namespace Go.Proofs.Ytibpkgopbecfoaa
set_option linter.unusedSimpArgs false
set_option linter.unusedVariables false
open Go.RowKit
set_option maxRecDepth 20000

theorem ev_rLegal (p : Pl) (hv : validE p = 0) (l : List Int) (hll : l.length = p.ns.length) (f : Int) (path : List Int) (hl : path.length ≤ 1000) : Ev Try.prog 21 [plV p, intsV l, .sc (.int .i64 f), intsV path] (.sc (.bool (rlegE p l f path))) := by
  have h2 := ev_rNodes p hv f path hl
  have h3 := ev_Step l
  unfold plV intsV at *
  refine ev_fn Try.func21 comp21 (show 4 ≤ Try.f21.ntmps by decide) ?_; unfold cf21 rf21; simp only [↓EVP0, EVQ0, EVQ1, EVQ2, EVQ3, EVQ4, EVA, EVK, EVF, ↓reduceIte, Nat.reduceEqDiff, Nat.reduceAdd, Nat.reduceSub, Nat.reduceMul, Nat.reduceLT, Nat.reduceLeDiff, reduceCtorEq, Int.reduceToNat, Int.reduceLT, Int.reduceLE, Int.reduceAdd, Int.reduceSub, Int.reduceMul, Int.reduceNeg, Int.reduceEq, Nat.reduceMod, forall_eq_or_imp, forall_eq, forall_const, cond_true, cond_false, decide_true, decide_false, true_imp_iff, implies_true, Int.cast_ofNat_Int, forall_eq']
  refine callK_ro (h2) ?_ ?_
  · simp only [↓EVP0, EVQ0, EVQ1, EVQ2, EVQ3, EVQ4, EVA, EVK, EVF, ↓reduceIte, Nat.reduceEqDiff, Nat.reduceAdd, Nat.reduceSub, Nat.reduceMul, Nat.reduceLT, Nat.reduceLeDiff, reduceCtorEq, Int.reduceToNat, Int.reduceLT, Int.reduceLE, Int.reduceAdd, Int.reduceSub, Int.reduceMul, Int.reduceNeg, Int.reduceEq, Nat.reduceMod, forall_eq_or_imp, forall_eq, forall_const, cond_true, cond_false, decide_true, decide_false, true_imp_iff, implies_true, Int.cast_ofNat_Int, forall_eq']
  simp only [↓EVP0, EVQ0, EVQ1, EVQ2, EVQ3, EVQ4, EVA, EVK, EVF, ↓reduceIte, Nat.reduceEqDiff, Nat.reduceAdd, Nat.reduceSub, Nat.reduceMul, Nat.reduceLT, Nat.reduceLeDiff, reduceCtorEq, Int.reduceToNat, Int.reduceLT, Int.reduceLE, Int.reduceAdd, Int.reduceSub, Int.reduceMul, Int.reduceNeg, Int.reduceEq, Nat.reduceMod, forall_eq_or_imp, forall_eq, forall_const, cond_true, cond_false, decide_true, decide_false, true_imp_iff, implies_true, Int.cast_ofNat_Int, forall_eq']
  by_cases hn : (nodesE p f path).2 = 0
  rotate_left
  · simp only [decide_eq_false hn]
    simp only [↓EVP0, EVQ0, EVQ1, EVQ2, EVQ3, EVQ4, EVA, EVK, EVF, ↓reduceIte, Nat.reduceEqDiff, Nat.reduceAdd, Nat.reduceSub, Nat.reduceMul, Nat.reduceLT, Nat.reduceLeDiff, reduceCtorEq, Int.reduceToNat, Int.reduceLT, Int.reduceLE, Int.reduceAdd, Int.reduceSub, Int.reduceMul, Int.reduceNeg, Int.reduceEq, Nat.reduceMod, forall_eq_or_imp, forall_eq, forall_const, cond_true, cond_false, decide_true, decide_false, true_imp_iff, implies_true, Int.cast_ofNat_Int, forall_eq']
    unfold rlegE; rw [decide_eq_false hn]; rfl
  simp only [decide_eq_true hn]
  simp only [↓EVP0, EVQ0, EVQ1, EVQ2, EVQ3, EVQ4, EVA, EVK, EVF, ↓reduceIte, Nat.reduceEqDiff, Nat.reduceAdd, Nat.reduceSub, Nat.reduceMul, Nat.reduceLT, Nat.reduceLeDiff, reduceCtorEq, Int.reduceToNat, Int.reduceLT, Int.reduceLE, Int.reduceAdd, Int.reduceSub, Int.reduceMul, Int.reduceNeg, Int.reduceEq, Nat.reduceMod, forall_eq_or_imp, forall_eq, forall_const, cond_true, cond_false, decide_true, decide_false, true_imp_iff, implies_true, Int.cast_ofNat_Int, forall_eq']
  obtain ⟨_, hf, hP, ns, hw, he⟩ := nodes_ok hn
  obtain ⟨hw1, hw2⟩ := wlk_get hw
  have hfi := nodB_in hf
  unfold inN at hfi
  rw [he]
  simp only
  refine ⟨⟨by omega, by omega⟩, fun h => ?_, fun h => ?_⟩
  · have : ¬ 0 ≤ lvl l f := by have := of_decide_eq_true h; unfold lvl; omega
    unfold rlegE; rw [decide_eq_false this]; simp
  have h0 : 0 ≤ lvl l f := by have := of_decide_eq_false h; unfold lvl; omega
  have hL : rlegE p l f path = rlg l p.cs f false none path := by
    unfold rlegE; rw [he, decide_eq_true h0]; rfl
  refine lwp_for (α := Bool) path.length (fun i fl => rlg l p.cs f false none path = rlg l p.cs ((f :: ns).getD i 0) fl (prv path i) (path.drop i)) (fun i fl => [(1, .rsl 1 l.length (intsF l)), (3, .rsl 1 path.length (intsF path)), (9, .rsl 1 (ns.length + 1) (intsF (f :: ns))), (11, .sc (.bool fl)), (12, .sc (.int .i64 i))])
    (fun i fl => []) false rfl ?_ (fun _ _ => Nat.zero_le _) ?_
  · simp only [↓EVP0, EVQ0, EVQ1, EVQ2, EVQ3, EVQ4, EVA, EVK, EVF, ↓reduceIte, Nat.reduceEqDiff, Nat.reduceAdd, Nat.reduceSub, Nat.reduceMul, Nat.reduceLT, Nat.reduceLeDiff, reduceCtorEq, Int.reduceToNat, Int.reduceLT, Int.reduceLE, Int.reduceAdd, Int.reduceSub, Int.reduceMul, Int.reduceNeg, Int.reduceEq, Nat.reduceMod, forall_eq_or_imp, forall_eq, forall_const, cond_true, cond_false, decide_true, decide_false, true_imp_iff, implies_true, Int.cast_ofNat_Int, forall_eq']
  intro i fl hi hx2
  unfold lb21_0
  simp only [↓EVP0, EVQ0, EVQ1, EVQ2, EVQ3, EVQ4, EVA, EVK, EVF, ↓reduceIte, Nat.reduceEqDiff, Nat.reduceAdd, Nat.reduceSub, Nat.reduceMul, Nat.reduceLT, Nat.reduceLeDiff, reduceCtorEq, Int.reduceToNat, Int.reduceLT, Int.reduceLE, Int.reduceAdd, Int.reduceSub, Int.reduceMul, Int.reduceNeg, Int.reduceEq, Nat.reduceMod, forall_eq_or_imp, forall_eq, forall_const, cond_true, cond_false, decide_true, decide_false, true_imp_iff, implies_true, Int.cast_ofNat_Int, forall_eq']
  refine fun _ => ⟨fun hg => ?_, fun hg => ?_⟩
  · have hi2 : i < path.length := by have := of_decide_eq_true hg; omega
    obtain ⟨g1, g2⟩ := hw2 i hi2
    refine ⟨⟨by omega, by omega⟩, by unfold In64; omega, ⟨by omega, by omega⟩, ?_⟩
    rw [show ((i : Int) + 1).toNat = i + 1 by omega, List.getD_cons_succ]
    rw [List.getD_cons_succ] at g2
    have e0 : (f :: ns).getD (i + 1) 0 = ns.getD i 0 := rfl
    generalize (f :: ns).getD i 0 = x at *
    have hst : rlg l p.cs x fl (prv path i) (path.drop i) = ((!decide (stpE l x (ns.getD i 0) = 0) && (!(decide (stpE l x (ns.getD i 0) = 1) && fl) && !decide (prv path i = some (path.getD i 0)))) && rlg l p.cs (ns.getD i 0) (fl || decide (stpE l x (ns.getD i 0) = 2)) (some (path.getD i 0)) (path.drop (i + 1))) := by
      rw [drop_getD 0 hi2, g2]; rfl
    have hpr : (bif decide (0 < (i : Int)) then decide (path.getD i 0 = path.getD ((i : Int) - 1).toNat 0) else false) = decide (prv path i = some (path.getD i 0)) := by
      unfold prv
      rw [Bool.eq_iff_iff]
      by_cases h0 : i = 0
      · subst h0; simp
      · rw [if_neg h0, show ((i : Int) - 1).toNat = i - 1 by omega]
        simp only [condF, Bool.and_eq_true, decide_eq_true_eq, Option.some.injEq]
        constructor
        · rintro ⟨_, h⟩; exact h.symm
        · intro h; exact ⟨by omega, h.symm⟩
    first | refine qCallK_ro (h3 x (ns.getD i 0)) ?_ ?_ | refine eCallK_ro (h3 x (ns.getD i 0)) ?_ ?_
    · simp only [↓EVP0, EVQ0, EVQ1, EVQ2, EVQ3, EVQ4, EVA, EVK, EVF, ↓reduceIte, Nat.reduceEqDiff, Nat.reduceAdd, Nat.reduceSub, Nat.reduceMul, Nat.reduceLT, Nat.reduceLeDiff, reduceCtorEq, Int.reduceToNat, Int.reduceLT, Int.reduceLE, Int.reduceAdd, Int.reduceSub, Int.reduceMul, Int.reduceNeg, Int.reduceEq, Nat.reduceMod, forall_eq_or_imp, forall_eq, forall_const, cond_true, cond_false, decide_true, decide_false, true_imp_iff, implies_true, Int.cast_ofNat_Int, forall_eq']
    simp only [↓EVP0, EVQ0, EVQ1, EVQ2, EVQ3, EVQ4, EVA, EVK, EVF, ↓reduceIte, Nat.reduceEqDiff, Nat.reduceAdd, Nat.reduceSub, Nat.reduceMul, Nat.reduceLT, Nat.reduceLeDiff, reduceCtorEq, Int.reduceToNat, Int.reduceLT, Int.reduceLE, Int.reduceAdd, Int.reduceSub, Int.reduceMul, Int.reduceNeg, Int.reduceEq, Nat.reduceMod, forall_eq_or_imp, forall_eq, forall_const, cond_true, cond_false, decide_true, decide_false, true_imp_iff, implies_true, Int.cast_ofNat_Int, forall_eq']
    generalize ns.getD i 0 = y at *
    rw [hpr]
    generalize stpE l x y = s at *
    refine ⟨fun _ => ⟨by omega, by omega⟩, fun h => by unfold In64; omega, fun h => ?_, ?_⟩
    · simp only [Bool.and_eq_true, decide_eq_true_eq] at h; omega
    refine ⟨fun h => ?_, fun h => ?_⟩
    · rw [hL, hx2, hst]
      revert h
      cases decide (s = 0) <;> cases decide (s = 1) <;> cases fl <;> cases decide (prv path i = some (path.getD i 0)) <;> simp
    · refine ⟨by unfold In64; omega, hi2, ?_⟩
      rw [condT]
      refine ⟨_, ?_, rfl⟩
      rw [hx2, hst, show prv path (i + 1) = some (path.getD i 0) from rfl]
      revert h
      cases decide (s = 0) <;> cases decide (s = 1) <;> cases fl <;> cases decide (prv path i = some (path.getD i 0)) <;> simp
  have hii : i = path.length := by have := of_decide_eq_false hg; omega
  subst hii
  rw [List.drop_length] at hx2
  rw [hL, hx2]; rfl
end Go.Proofs.Ytibpkgopbecfoaa
namespace Go.Proofs.Ytibpkgopbecfoaa
set_option linter.unusedSimpArgs false
set_option linter.unusedVariables false
open Go.RowKit
set_option maxRecDepth 20000

abbrev St := Int × Bool
abbrev Mp := List (St × Int)
def skV (s : St) : Value := .agg #[.int .i64 s.1, .bool s.2]
theorem skV_inj {x y : St} (h : skV x = skV y) : x = y := by
  unfold skV at h
  injection h with h
  have h1 : (#[Value.int .i64 x.1, .bool x.2] : Array Value).toList = (#[Value.int .i64 y.1, .bool y.2] : Array Value).toList := by rw [h]
  simp at h1
  exact Prod.ext h1.1 h1.2
def kvM (m : Mp) : List (Value × LV) := m.map fun q => (skV q.1, .sc (.int .i64 q.2))
def lk (s : St) : Mp → Option Int
  | [] => none
  | (t, d) :: r => if t = s then some d else lk s r
def pt (s : St) (d : Int) : Mp → Mp
  | [] => [(s, d)]
  | (t, u) :: r => if t = s then (t, d) :: r else (t, u) :: pt s d r
theorem mfind_kvM (s : St) : ∀ (m : Mp), mfind (kvM m) (skV s) = (lk s m).map fun d => .sc (.int .i64 d)
  | [] => rfl
  | (t, d) :: r => by
    have ih := mfind_kvM s r
    simp only [kvM, List.map_cons, mfind, lk] at ih ⊢
    by_cases h : t = s
    · subst h; simp
    · rw [if_neg (fun e => h (skV_inj e)), if_neg h, ih]
theorem mput_kvM (s : St) (d : Int) : ∀ (m : Mp), mput (kvM m) (skV s) (.sc (.int .i64 d)) = kvM (pt s d m)
  | [] => rfl
  | (t, u) :: r => by
    have ih := mput_kvM s d r
    simp only [kvM, List.map_cons, mput, pt] at ih ⊢
    by_cases h : t = s
    · subst h; simp
    · rw [if_neg (fun e => h (skV_inj e)), if_neg h, ih]; rfl
theorem lk_pt (s t : St) (d : Int) : ∀ (m : Mp), lk t (pt s d m) = if t = s then some d else lk t m
  | [] => by
    simp only [pt, lk]
    by_cases h : t = s
    · rw [if_pos h, if_pos h.symm]
    · rw [if_neg h, if_neg (fun e => h e.symm)]
  | (u, e) :: r => by
    have ih := lk_pt s t d r
    simp only [pt]
    by_cases h : u = s
    · subst h
      rw [if_pos rfl]
      simp only [lk]
      by_cases h2 : u = t
      · subst h2; simp
      · rw [if_neg h2, if_neg h2, if_neg (fun e => h2 e.symm)]
    · rw [if_neg h]
      simp only [lk]
      by_cases h2 : u = t
      · subst h2; rw [if_pos rfl, if_pos rfl, if_neg h]
      · rw [if_neg h2, if_neg h2, ih]
theorem allC_kvM (n : Nat) (m : Mp) : allC n ((kvM m).map (·.2)) := by
  induction m with
  | nil => trivial
  | cons q r ih => exact ⟨trivial, ih⟩
theorem key_ib {P : Program} {t : TypeId} {f0 f1 : Field} (hu : P.underlying t = some (.struct #[f0, f1])) (h0 : P.underlying f0.type = some (.int .i64)) (h1 : P.underlying f1.type = some .bool) (o0 : f0.offset = 0) (o1 : f1.offset = 1)
    (n0 : (f0.name != "_") = true) (n1 : (f1.name != "_") = true) (hk : P.keyType t = true) (hc : P.cellsOf t = 2) (c0 : P.cellsOf f0.type = 1) (c1 : P.cellsOf f1.type = 1) (hz : P.types.size ≠ 0) {a : Int} {b : Bool} (ha : In64 a) :
    (keyOf P t (skV (a, b))).isSome = true := by
  have h2 : (Lit.int .i64 a).wf = true := wf_i64 ha
  obtain ⟨d, hd⟩ : ∃ d, P.types.size = d + 1 := ⟨P.types.size - 1, by omega⟩
  have k0 : P.keyLits P.types.size f0.type [.int .i64 a] = some [.int .i64 a] := by rw [hd]; simp [Program.keyLits, h0, h2]
  have k1 : P.keyLits P.types.size f1.type [.bool b] = some [.bool b] := by rw [hd]; simp [Program.keyLits, h1]
  simp only [bne_iff_ne, ne_eq] at n0 n1
  simp [skV, keyOf, hu, hk, Value.formed, hc, Program.keyLits, Value.cells, o0, o1, c0, c1, k0, k1, n0, n1]
theorem key_st (s : St) (hs : In64 s.1) : (keyOf Try.prog 80 (skV s)).isSome = true := by
  exact key_ib Try.underlying80 (by kernel_rfl) (by kernel_rfl) rfl rfl (by decide) (by decide) (by kernel_rfl) (by kernel_rfl) (by kernel_rfl) (by kernel_rfl) (ne_of_beq_false (by kernel_rfl)) hs
theorem keys_kvM {m : Mp} {s : St} (hm : ∀ q, q ∈ m → In64 q.1.1) (hs : In64 s.1) : keysOk Try.prog 80 (kvM m) (skV s) := by
  refine ⟨key_st s hs, fun kv hkv => ?_⟩
  simp only [kvM, List.mem_map] at hkv
  obtain ⟨q, hq, rfl⟩ := hkv
  exact key_st _ (hm q hq)
def mOk (m : Mp) : Prop := ∀ q, q ∈ m → In64 q.1.1
theorem mOk_pt {m : Mp} {s : St} {d : Int} (hm : mOk m) (hs : In64 s.1) : mOk (pt s d m) := by
  induction m with
  | nil => intro q hq; simp [pt] at hq; subst hq; exact hs
  | cons x r ih =>
    obtain ⟨t, u⟩ := x
    intro q hq
    simp only [pt] at hq
    split at hq
    · rename_i h
      rcases List.mem_cons.1 hq with rfl | hq
      · exact hm (t, u) (by simp)
      · exact hm q (by simp [hq])
    · rcases List.mem_cons.1 hq with rfl | hq
      · exact hm (t, u) (by simp)
      · exact ih (fun q hq => hm q (by simp [hq])) q hq
/-- A state's length becomes smaller, if the next state's length tells so. -/
def imp (l : List Int) (m : Mp) (s : St) (y : Int) : Mp × Bool :=
  match lk (y, !aboveB l y s.1) m with
  | none => (m, false)
  | some d => bif !aboveB l y s.1 || !s.2 then (match lk s m with
    | some o => if o ≤ d + 1 then (m, false) else (pt s (d + 1) m, true)
    | none => (pt s (d + 1) m, true)) else (m, false)
def sH (p : Pl) (l : List Int) (up : List Bool) (m : Mp) : List (Nat × LO) := [(0, .box [.rsl 3 p.ns.length (ndsF p.ns), .rsl 6 p.cs.length (cbsF p.cs)]), (0, .box [.rsl 1 l.length (intsF l)]), (0, .box [.rsl 1 up.length (boolsF up)]), (0, .map (kvM m)), (0, .box [.mp 3 0]), (0, .box [.fn 68 [.ptr 1 0 0 0 0, .ptr 4 0 0 0 0]])]
theorem ev_imp (p : Pl) (l : List Int) (m : Mp) (hm : mOk m) (up : List Bool) (s : St) (hs : In64 s.1) (y : Int) (hy : In64 y) (hd : ∀ t d, lk t m = some d → In64 (d + 1)) (ob : List LV) (hob : allC 7 ob) :
    LCall Try.prog 68 [.agg [.sc (.int .i64 s.1), .sc (.bool s.2)], .sc (.int .i64 y), .ptr 1 0 0 0 0, .ptr 4 0 0 0 0]
      (mkH (sH p l up m ++ [(0, .box ob)])) (.sc (.bool (imp l m s y).2)) (mkH (sH p l up (imp l m s y).1 ++ [(0, .box ob)])) := by
  have h3 := ev_step l s.1 s.2 y
  unfold intsV at h3
  refine lcall_of_lwp Try.func68 comp68 (show 4 ≤ Try.f68.ntmps by decide) (by simp [sH, mkH]) ?_
  unfold cf68 rf68 sH
  simp only [↓EVP0, EVQ0, EVQ1, EVQ2, EVQ3, EVQ4, EVA, EVK, EVF, ↓reduceIte, Nat.reduceEqDiff, Nat.reduceAdd, Nat.reduceSub, Nat.reduceMul, Nat.reduceLT, Nat.reduceLeDiff, reduceCtorEq, Int.reduceToNat, Int.reduceLT, Int.reduceLE, Int.reduceAdd, Int.reduceSub, Int.reduceMul, Int.reduceNeg, Int.reduceEq, Nat.reduceMod, forall_eq_or_imp, forall_eq, forall_const, cond_true, cond_false, decide_true, decide_false, true_imp_iff, implies_true, Int.cast_ofNat_Int, forall_eq']
  refine callK_ro (h3) ?_ ?_
  · simp only [↓EVP0, EVQ0, EVQ1, EVQ2, EVQ3, EVQ4, EVA, EVK, EVF, ↓reduceIte, Nat.reduceEqDiff, Nat.reduceAdd, Nat.reduceSub, Nat.reduceMul, Nat.reduceLT, Nat.reduceLeDiff, reduceCtorEq, Int.reduceToNat, Int.reduceLT, Int.reduceLE, Int.reduceAdd, Int.reduceSub, Int.reduceMul, Int.reduceNeg, Int.reduceEq, Nat.reduceMod, forall_eq_or_imp, forall_eq, forall_const, cond_true, cond_false, decide_true, decide_false, true_imp_iff, implies_true, Int.cast_ofNat_Int, forall_eq']
  simp only [↓EVP0, EVQ0, EVQ1, EVQ2, EVQ3, EVQ4, EVA, EVK, EVF, ↓reduceIte, Nat.reduceEqDiff, Nat.reduceAdd, Nat.reduceSub, Nat.reduceMul, Nat.reduceLT, Nat.reduceLeDiff, reduceCtorEq, Int.reduceToNat, Int.reduceLT, Int.reduceLE, Int.reduceAdd, Int.reduceSub, Int.reduceMul, Int.reduceNeg, Int.reduceEq, Nat.reduceMod, forall_eq_or_imp, forall_eq, forall_const, cond_true, cond_false, decide_true, decide_false, true_imp_iff, implies_true, Int.cast_ofNat_Int, forall_eq']
  have e1 : mfind (kvM m) (Value.agg #[Value.int IntKind.i64 y, Value.bool !aboveB l y s.1]) = (lk (y, !aboveB l y s.1) m).map fun d => .sc (.int .i64 d) := mfind_kvM (y, !aboveB l y s.1) m
  have e2 : mfind (kvM m) (Value.agg #[Value.int IntKind.i64 s.1, Value.bool s.2]) = (lk s m).map fun d => .sc (.int .i64 d) := mfind_kvM s m
  have e3 : ∀ d, mput (kvM m) (Value.agg #[Value.int IntKind.i64 s.1, Value.bool s.2]) (.sc (.int .i64 d)) = kvM (pt s d m) := fun d => mput_kvM s d m
  have k1 : keysOk Try.prog 80 (kvM m) (Value.agg #[Value.int IntKind.i64 y, Value.bool !aboveB l y s.1]) := keys_kvM (s := (y, !aboveB l y s.1)) hm hy
  have k2 : keysOk Try.prog 80 (kvM m) (Value.agg #[Value.int IntKind.i64 s.1, Value.bool s.2]) := keys_kvM (s := s) hm hs
  have a1 : ∀ m : Mp, allC 7 ((kvM m).map (·.2)) := allC_kvM 7
  simp only [e1, e2, e3]
  have hd1 := hd (y, !aboveB l y s.1)
  unfold imp
  generalize aboveB l y s.1 = u at *
  rcases hq : lk (y, !u) m with _ | d
  · rcases hr : lk s m with _ | o <;> simp only [Option.map_some, Option.map_none, Option.getD_some, Option.getD_none, Option.isSome_some, Option.isSome_none]
    all_goals
      simp only [↓EVP0, EVQ0, EVQ1, EVQ2, EVQ3, EVQ4, EVA, EVK, EVF, ↓reduceIte, Nat.reduceEqDiff, Nat.reduceAdd, Nat.reduceSub, Nat.reduceMul, Nat.reduceLT, Nat.reduceLeDiff, reduceCtorEq, Int.reduceToNat, Int.reduceLT, Int.reduceLE, Int.reduceAdd, Int.reduceSub, Int.reduceMul, Int.reduceNeg, Int.reduceEq, Nat.reduceMod, forall_eq_or_imp, forall_eq, forall_const, cond_true, cond_false, decide_true, decide_false, true_imp_iff, implies_true, Int.cast_ofNat_Int, forall_eq']
      cases hg : (!u || !s.2)
      all_goals
        simp only [↓EVP0, EVQ0, EVQ1, EVQ2, EVQ3, EVQ4, EVA, EVK, EVF, ↓reduceIte, Nat.reduceEqDiff, Nat.reduceAdd, Nat.reduceSub, Nat.reduceMul, Nat.reduceLT, Nat.reduceLeDiff, reduceCtorEq, Int.reduceToNat, Int.reduceLT, Int.reduceLE, Int.reduceAdd, Int.reduceSub, Int.reduceMul, Int.reduceNeg, Int.reduceEq, Nat.reduceMod, forall_eq_or_imp, forall_eq, forall_const, cond_true, cond_false, decide_true, decide_false, true_imp_iff, implies_true, Int.cast_ofNat_Int, forall_eq']
        unfold fin2
        simp only [↓EVP0, EVQ0, EVQ1, EVQ2, EVQ3, EVQ4, EVA, EVK, EVF, ↓reduceIte, Nat.reduceEqDiff, Nat.reduceAdd, Nat.reduceSub, Nat.reduceMul, Nat.reduceLT, Nat.reduceLeDiff, reduceCtorEq, Int.reduceToNat, Int.reduceLT, Int.reduceLE, Int.reduceAdd, Int.reduceSub, Int.reduceMul, Int.reduceNeg, Int.reduceEq, Nat.reduceMod, forall_eq_or_imp, forall_eq, forall_const, cond_true, cond_false, decide_true, decide_false, true_imp_iff, implies_true, Int.cast_ofNat_Int, forall_eq']
        exact ⟨k1, k2, a1 m, hob⟩
  · have hd2 := hd1 d hq
    rcases hr : lk s m with _ | o <;> simp only [Option.map_some, Option.map_none, Option.getD_some, Option.getD_none, Option.isSome_some, Option.isSome_none]
    all_goals
      simp only [↓EVP0, EVQ0, EVQ1, EVQ2, EVQ3, EVQ4, EVA, EVK, EVF, ↓reduceIte, Nat.reduceEqDiff, Nat.reduceAdd, Nat.reduceSub, Nat.reduceMul, Nat.reduceLT, Nat.reduceLeDiff, reduceCtorEq, Int.reduceToNat, Int.reduceLT, Int.reduceLE, Int.reduceAdd, Int.reduceSub, Int.reduceMul, Int.reduceNeg, Int.reduceEq, Nat.reduceMod, forall_eq_or_imp, forall_eq, forall_const, cond_true, cond_false, decide_true, decide_false, true_imp_iff, implies_true, Int.cast_ofNat_Int, forall_eq']
      cases hg : (!u || !s.2)
      · simp only [↓EVP0, EVQ0, EVQ1, EVQ2, EVQ3, EVQ4, EVA, EVK, EVF, ↓reduceIte, Nat.reduceEqDiff, Nat.reduceAdd, Nat.reduceSub, Nat.reduceMul, Nat.reduceLT, Nat.reduceLeDiff, reduceCtorEq, Int.reduceToNat, Int.reduceLT, Int.reduceLE, Int.reduceAdd, Int.reduceSub, Int.reduceMul, Int.reduceNeg, Int.reduceEq, Nat.reduceMod, forall_eq_or_imp, forall_eq, forall_const, cond_true, cond_false, decide_true, decide_false, true_imp_iff, implies_true, Int.cast_ofNat_Int, forall_eq']
        unfold fin2
        simp only [↓EVP0, EVQ0, EVQ1, EVQ2, EVQ3, EVQ4, EVA, EVK, EVF, ↓reduceIte, Nat.reduceEqDiff, Nat.reduceAdd, Nat.reduceSub, Nat.reduceMul, Nat.reduceLT, Nat.reduceLeDiff, reduceCtorEq, Int.reduceToNat, Int.reduceLT, Int.reduceLE, Int.reduceAdd, Int.reduceSub, Int.reduceMul, Int.reduceNeg, Int.reduceEq, Nat.reduceMod, forall_eq_or_imp, forall_eq, forall_const, cond_true, cond_false, decide_true, decide_false, true_imp_iff, implies_true, Int.cast_ofNat_Int, forall_eq']
        exact ⟨k1, k2, a1 m, hob⟩
      · simp only [↓EVP0, EVQ0, EVQ1, EVQ2, EVQ3, EVQ4, EVA, EVK, EVF, ↓reduceIte, Nat.reduceEqDiff, Nat.reduceAdd, Nat.reduceSub, Nat.reduceMul, Nat.reduceLT, Nat.reduceLeDiff, reduceCtorEq, Int.reduceToNat, Int.reduceLT, Int.reduceLE, Int.reduceAdd, Int.reduceSub, Int.reduceMul, Int.reduceNeg, Int.reduceEq, Nat.reduceMod, forall_eq_or_imp, forall_eq, forall_const, cond_true, cond_false, decide_true, decide_false, true_imp_iff, implies_true, Int.cast_ofNat_Int, forall_eq']
        unfold fin2
        simp only [↓EVP0, EVQ0, EVQ1, EVQ2, EVQ3, EVQ4, EVA, EVK, EVF, ↓reduceIte, Nat.reduceEqDiff, Nat.reduceAdd, Nat.reduceSub, Nat.reduceMul, Nat.reduceLT, Nat.reduceLeDiff, reduceCtorEq, Int.reduceToNat, Int.reduceLT, Int.reduceLE, Int.reduceAdd, Int.reduceSub, Int.reduceMul, Int.reduceNeg, Int.reduceEq, Nat.reduceMod, forall_eq_or_imp, forall_eq, forall_const, cond_true, cond_false, decide_true, decide_false, true_imp_iff, implies_true, Int.cast_ofNat_Int, forall_eq']
        first
          | exact ⟨k1, k2, hd2, k2, e3 _, a1 _, hob⟩
          | refine ⟨k1, k2, hd2, fun h => ?_, fun h => ?_⟩
            · rw [if_pos (of_decide_eq_true h)]; exact ⟨rfl, rfl, a1 _, hob⟩
            · rw [if_neg (of_decide_eq_false h)]; exact ⟨hd2, k2, rfl, e3 _, a1 _, hob⟩
end Go.Proofs.Ytibpkgopbecfoaa
namespace Go.Proofs.Ytibpkgopbecfoaa
set_option linter.unusedSimpArgs false
set_option linter.unusedVariables false
open Go.RowKit
set_option maxRecDepth 20000

def skp (l : List Int) (up : List Bool) (c : Cb) (i : Nat) : Bool := (!up.getD i false || decide (lvl l c.a < 0)) || decide (lvl l c.b < 0)
/-- A step of a path over a cable that is up, from a state to the next one. -/
def EdgJ (l : List Int) (cs : List Cb) (up : List Bool) (i : Nat) (s t : St) : Prop :=
  skp l up (cs.getD i default) i = false ∧ ((s.1 = (cs.getD i default).a ∧ t.1 = (cs.getD i default).b) ∨ (s.1 = (cs.getD i default).b ∧ t.1 = (cs.getD i default).a)) ∧
    t.2 = (!aboveB l t.1 s.1) ∧ (!aboveB l t.1 s.1 || !s.2) = true
def Edg (l : List Int) (cs : List Cb) (up : List Bool) (s t : St) : Prop := ∃ i, i < cs.length ∧ EdgJ l cs up i s t
structure SInv (n : Nat) (l : List Int) (cs : List Cb) (up : List Bool) (to : Int) (m : Mp) : Prop where
  key : ∀ q, q ∈ m → inN n q.1.1
  nd : (m.map (·.1)).Nodup
  tgt : ∀ b, lk (to, b) m = some 0
  val : ∀ s d, lk s m = some d → 0 ≤ d ∧ d < m.length ∧ ((s.1 = to ∧ d = 0) ∨ ∃ t d', Edg l cs up s t ∧ lk t m = some d' ∧ d' + 1 ≤ d)
theorem lk_mem {s : St} {d : Int} : ∀ {m : Mp}, lk s m = some d → (s, d) ∈ m
  | [], h => by simp [lk] at h
  | (t, u) :: r, h => by
    simp only [lk] at h
    split at h
    · rename_i e; subst e; simp at h; subst h; simp
    · exact List.mem_cons_of_mem _ (lk_mem h)
theorem lk_none {s : St} : ∀ {m : Mp}, lk s m = none → s ∉ m.map (·.1)
  | [], _ => by simp
  | (t, u) :: r, h => by
    simp only [lk] at h
    split at h
    · simp at h
    · rename_i e
      simp only [List.map_cons, List.mem_cons, not_or]
      exact ⟨fun h2 => e h2.symm, lk_none h⟩
theorem pt_new {s : St} {d : Int} : ∀ {m : Mp}, lk s m = none → pt s d m = m ++ [(s, d)]
  | [], _ => rfl
  | (t, u) :: r, h => by
    simp only [lk] at h
    split at h
    · simp at h
    · rename_i e
      simp only [pt]
      rw [if_neg e, pt_new h]; rfl
theorem pt_keys {s : St} {d o : Int} : ∀ {m : Mp}, lk s m = some o → (pt s d m).map (·.1) = m.map (·.1) ∧ (pt s d m).length = m.length
  | [], h => by simp [lk] at h
  | (t, u) :: r, h => by
    simp only [lk] at h
    simp only [pt]
    split at h
    · rename_i e
      rw [if_pos e]; exact ⟨rfl, rfl⟩
    · rename_i e
      rw [if_neg e]
      obtain ⟨h1, h2⟩ := pt_keys (d := d) h
      exact ⟨by simp [h1], by simp [h2]⟩
theorem lk_or (s : St) (m : Mp) : lk s m = none ∨ ∃ d, lk s m = some d := by cases lk s m with
  | none => exact .inl rfl
  | some d => exact .inr ⟨d, rfl⟩
theorem SInv.put {n : Nat} {l : List Int} {cs : List Cb} {up : List Bool} {to : Int} {m : Mp} (h : SInv n l cs up to m) {s t : St} {d : Int} (hs : inN n s.1) (he : Edg l cs up s t) (hd : lk t m = some d) (ho : ∀ o, lk s m = some o → d + 1 < o) : SInv n l cs up to (pt s (d + 1) m) := by
  have hlen : m.length ≤ (pt s (d + 1) m).length ∧ d + 1 < ((pt s (d + 1) m).length : Int) := by
    have hv := (h.val t d hd).2.1
    rcases lk_or s m with hn | ⟨o, hn⟩
    · rw [pt_new hn]; simp; omega
    · rw [(pt_keys hn).2]
      have := ho o hn
      have := (h.val s o hn).2.1
      omega
  have hne : ∀ b, (to, b) ≠ s := by
    intro b e
    have := ho 0 (e ▸ h.tgt b)
    have := (h.val t d hd).1
    omega
  have hts : t ≠ s := by
    intro e
    have := ho d (e ▸ hd)
    omega
  refine ⟨fun q hq => ?_, ?_, fun b => ?_, fun u e hu => ?_⟩
  · rcases lk_or s m with hn | ⟨o, hn⟩
    · rw [pt_new hn] at hq
      rcases List.mem_append.1 hq with hq | hq
      · exact h.key q hq
      · simp at hq; subst hq; exact hs
    · have : q.1 ∈ (pt s (d + 1) m).map (·.1) := List.mem_map.2 ⟨q, hq, rfl⟩
      rw [(pt_keys hn).1] at this
      obtain ⟨q', h1, h2⟩ := List.mem_map.1 this
      have := h.key q' h1
      rw [h2] at this; exact this
  · rcases lk_or s m with hn | ⟨o, hn⟩
    · rw [pt_new hn, List.map_append]
      exact nodup_take.2 ⟨h.nd, lk_none hn⟩
    · rw [(pt_keys hn).1]; exact h.nd
  · rw [lk_pt, if_neg (hne b)]; exact h.tgt b
  · rw [lk_pt] at hu
    have hd0 := (h.val t d hd).1
    split at hu
    · rename_i e2
      subst e2
      simp at hu
      subst hu
      exact ⟨by omega, hlen.2, .inr ⟨t, d, he, by rw [lk_pt, if_neg hts]; exact hd, Int.le_refl _⟩⟩
    · obtain ⟨g1, g2, g3⟩ := h.val u e hu
      refine ⟨g1, by omega, ?_⟩
      rcases g3 with g3 | ⟨v, e', g3, g4, g5⟩
      · exact .inl g3
      · right
        by_cases hvs : v = s
        · subst hvs
          have := ho e' g4
          exact ⟨v, d + 1, g3, by rw [lk_pt, if_pos rfl], by omega⟩
        · exact ⟨v, e', g3, by rw [lk_pt, if_neg hvs]; exact g4, g5⟩
/-- What is left to become smaller. -/
def muS (n : Nat) (m : Mp) : Nat := ((List.range n).map fun (i : Nat) => (((lk ((i : Int), false) m).getD 1000).toNat + ((lk ((i : Int), true) m).getD 1000).toNat)).sum
theorem sum_le {f g : Nat → Nat} : ∀ (n : Nat), (∀ i, i < n → f i ≤ g i) → ((List.range n).map f).sum ≤ ((List.range n).map g).sum
  | 0, _ => by simp
  | n + 1, h => by
    rw [List.range_succ, List.map_append, List.map_append, List.sum_append, List.sum_append]
    have := sum_le n (fun i hi => h i (by omega))
    have := h n (by omega)
    simp; omega
theorem sum_lt {f g : Nat → Nat} {k : Nat} : ∀ (n : Nat), k < n → (∀ i, i < n → f i ≤ g i) → f k < g k → ((List.range n).map f).sum < ((List.range n).map g).sum
  | 0, hk, _, _ => by omega
  | n + 1, hk, h, hlt => by
    rw [List.range_succ, List.map_append, List.map_append, List.sum_append, List.sum_append]
    have h1 := h n (by omega)
    simp only [List.map_cons, List.map_nil, List.sum_cons, List.sum_nil]
    by_cases e : k = n
    · subst e
      have := sum_le (f := f) (g := g) k (fun i hi => h i (by omega))
      omega
    · have := sum_lt n (by omega) (fun i hi => h i (by omega)) hlt
      omega
theorem mu_put {n : Nat} {m : Mp} {s : St} {d : Int} (hs : inN n s.1) (hd : 0 ≤ d ∧ d < 1000) (ho : ∀ o, lk s m = some o → d < o) : muS n (pt s d m) < muS n m := by
  unfold muS
  have key : ∀ t : St, ((lk t (pt s d m)).getD 1000).toNat ≤ ((lk t m).getD 1000).toNat ∧ (t = s → ((lk t (pt s d m)).getD 1000).toNat < ((lk t m).getD 1000).toNat) := by
    intro t
    rw [lk_pt]
    by_cases e : t = s
    · subst e
      rw [if_pos rfl]
      rcases lk_or t m with h | ⟨o, h⟩
      · rw [h]; simp; omega
      · rw [h]; have := ho o h; simp; omega
    · rw [if_neg e]; exact ⟨Nat.le_refl _, fun h => absurd h e⟩
  unfold inN at hs
  refine sum_lt (k := s.1.toNat) n (by omega) (fun i _ => ?_) ?_
  · have := (key ((i : Int), false)).1
    have := (key ((i : Int), true)).1
    omega
  · have e : ((s.1.toNat : Nat) : Int) = s.1 := by omega
    rw [e]
    have h1 := key (s.1, false)
    have h2 := key (s.1, true)
    rcases hb : s.2 with _ | _
    · have := h1.2 (Prod.ext rfl hb.symm)
      omega
    · have := h2.2 (Prod.ext rfl hb.symm)
      omega
def cod (s : St) : Nat := 2 * s.1.toNat + (bif s.2 then 1 else 0)
theorem cod_inj {n : Nat} {s t : St} (hs : inN n s.1) (ht : inN n t.1) (h : cod s = cod t) : s = t := by
  obtain ⟨x, b⟩ := s
  obtain ⟨y, c⟩ := t
  unfold cod inN at *
  simp only at *
  cases b <;> cases c <;> simp only [cond_true, cond_false] at h
  · have : x = y := by omega
    rw [this]
  · omega
  · omega
  · have : x = y := by omega
    rw [this]
theorem nodup_map {α : Type} {f : α → Nat} : ∀ {l : List α}, l.Nodup → (∀ x y, x ∈ l → y ∈ l → f x = f y → x = y) → (l.map f).Nodup
  | [], _, _ => by simp
  | x :: r, hn, hi => by
    obtain ⟨h1, h2⟩ := List.nodup_cons.1 hn
    rw [List.map_cons, List.nodup_cons]
    refine ⟨fun hm => ?_, nodup_map h2 (fun a b ha hb => hi a b (by simp [ha]) (by simp [hb]))⟩
    obtain ⟨y, hy, he⟩ := List.mem_map.1 hm
    have := hi x y (by simp) (by simp [hy]) he.symm
    subst this
    exact h1 hy
theorem SInv.len {n : Nat} {l : List Int} {cs : List Cb} {up : List Bool} {to : Int} {m : Mp} (h : SInv n l cs up to m) : m.length ≤ 2 * n := by
  have hk : ∀ s, s ∈ m.map (·.1) → inN n s.1 := by
    intro s hs
    obtain ⟨q, hq, rfl⟩ := List.mem_map.1 hs
    exact h.key q hq
  have h1 : ((m.map (·.1)).map cod).Nodup := nodup_map h.nd (fun x y hx hy e => cod_inj (hk x hx) (hk y hy) e)
  have h2 := sub_len _ (List.range (2 * n)) h1 (fun c hc => by
    obtain ⟨s, hs, rfl⟩ := List.mem_map.1 hc
    have := hk s hs
    unfold inN at this
    rw [List.mem_range]
    unfold cod
    cases s.2 <;> simp only [cond_true, cond_false] <;> omega)
  simpa using h2
/-- The lengths of an edge's ends fit. -/
def Cls (m : Mp) (s t : St) : Prop := ∀ d, lk t m = some d → ∃ o, lk s m = some o ∧ o ≤ d + 1
theorem imp_ok {n : Nat} {l : List Int} {cs : List Cb} {up : List Bool} {to : Int} {m : Mp} (hn : n ≤ 100) (h : SInv n l cs up to m) {s : St} {y : Int} (hs : inN n s.1)
    (he : (!aboveB l y s.1 || !s.2) = true → Edg l cs up s (y, !aboveB l y s.1)) :
    SInv n l cs up to (imp l m s y).1 ∧ ((imp l m s y).2 = false → (imp l m s y).1 = m ∧ ((!aboveB l y s.1 || !s.2) = true → Cls m s (y, !aboveB l y s.1))) ∧ ((imp l m s y).2 = true → muS n (imp l m s y).1 < muS n m) := by
  have hlen := h.len
  unfold imp
  rcases lk_or (y, !aboveB l y s.1) m with hq | ⟨d, hq⟩
  · rw [hq]
    exact ⟨h, fun _ => ⟨rfl, fun _ d hd => by rw [hq] at hd; simp at hd⟩, fun h => by simp at h⟩
  · rw [hq]
    simp only
    have hd := h.val _ d hq
    cases hok : (!aboveB l y s.1 || !s.2)
    · exact ⟨h, fun _ => ⟨rfl, fun h => by simp at h⟩, fun h => by simp at h⟩
    · simp only [cond_true]
      have hE := he hok
      rcases lk_or s m with hr | ⟨o, hr⟩
      · rw [hr]
        refine ⟨h.put hs hE hq (fun o ho => by rw [hr] at ho; simp at ho), fun h => by simp at h, fun _ => mu_put hs ⟨by omega, by omega⟩ (fun o ho => by rw [hr] at ho; simp at ho)⟩
      · rw [hr]
        simp only
        by_cases hle : o ≤ d + 1
        · rw [if_pos hle]
          refine ⟨h, fun _ => ⟨rfl, fun _ e hd' => ?_⟩, fun h => by simp at h⟩
          rw [hq] at hd'
          simp at hd'
          subst hd'
          exact ⟨o, hr, hle⟩
        · rw [if_neg hle]
          have hlt : ∀ o', lk s m = some o' → d + 1 < o' := fun o' ho' => by rw [hr] at ho'; simp at ho'; omega
          exact ⟨h.put hs hE hq hlt, fun h => by simp at h, fun _ => mu_put hs ⟨by omega, by omega⟩ hlt⟩
def imp2 (l : List Int) (q : Mp × Bool) (s : St) (y : Int) : Mp × Bool := ((imp l q.1 s y).1, (imp l q.1 s y).2 || q.2)
def cab4 (l : List Int) (q : Mp × Bool) (c : Cb) (f : Bool) : Mp × Bool := imp2 l (imp2 l q (c.a, f) c.b) (c.b, f) c.a
def pasP (l : List Int) (cs : List Cb) (up : List Bool) (q : Mp × Bool) : Nat → Mp × Bool
  | 0 => q
  | i + 1 => bif skp l up (cs.getD i default) i then pasP l cs up q i else cab4 l (cab4 l (pasP l cs up q i) (cs.getD i default) false) (cs.getD i default) true
/-- What a row of trials keeps: the edges that were tried fit, if nothing has changed. -/
structure PInv (n : Nat) (l : List Int) (cs : List Cb) (up : List Bool) (to : Int) (m0 : Mp) (D : St → St → Prop) (q : Mp × Bool) : Prop where
  inv : SInv n l cs up to q.1
  same : q.2 = false → q.1 = m0 ∧ ∀ s t, D s t → Cls m0 s t
  less : q.2 = true → muS n q.1 < muS n m0
theorem imp2_ok {n : Nat} {l : List Int} {cs : List Cb} {up : List Bool} {to : Int} {m0 : Mp} {D : St → St → Prop} {q : Mp × Bool} (hn : n ≤ 100) (h : PInv n l cs up to m0 D q) {s : St} {y : Int} (hs : inN n s.1)
    (he : (!aboveB l y s.1 || !s.2) = true → Edg l cs up s (y, !aboveB l y s.1)) :
    PInv n l cs up to m0 (fun a b => D a b ∨ (a = s ∧ b = (y, !aboveB l y s.1) ∧ (!aboveB l y s.1 || !s.2) = true)) (imp2 l q s y) := by
  obtain ⟨h1, h2, h3⟩ := imp_ok hn h.inv hs he
  refine ⟨h1, fun hf => ?_, fun ht => ?_⟩
  · have hf' : (imp l q.1 s y).2 = false ∧ q.2 = false := by simpa [imp2] using hf
    obtain ⟨a1, a2⟩ := h2 hf'.1
    obtain ⟨b1, b2⟩ := h.same hf'.2
    refine ⟨by show (imp l q.1 s y).1 = m0; rw [a1, b1], fun a b hab => ?_⟩
    rcases hab with hab | ⟨rfl, rfl, hab⟩
    · exact b2 a b hab
    · have := a2 hab
      rw [b1] at this; exact this
  · show muS n (imp l q.1 s y).1 < muS n m0
    by_cases hc : (imp l q.1 s y).2 = true
    · have := h3 hc
      by_cases hq : q.2 = true
      · have := h.less hq; omega
      · have e : muS n q.1 = muS n m0 := by rw [(h.same (by simpa using hq)).1]
        omega
    · have hq : q.2 = true := by
        have : ((imp l q.1 s y).2 || q.2) = true := ht
        simpa [hc] using this
      rw [(h2 (by simpa using hc)).1]
      exact h.less hq
theorem PInv.mono {n : Nat} {l : List Int} {cs : List Cb} {up : List Bool} {to : Int} {m0 : Mp} {D D' : St → St → Prop} {q : Mp × Bool} (h : PInv n l cs up to m0 D q) (hD : ∀ a b, D' a b → D a b) : PInv n l cs up to m0 D' q :=
  ⟨h.inv, fun hf => ⟨(h.same hf).1, fun a b hab => (h.same hf).2 a b (hD a b hab)⟩, h.less⟩
theorem pasP_ok {n : Nat} {l : List Int} {cs : List Cb} {up : List Bool} {to : Int} {m0 : Mp} (hn : n ≤ 100) (hC : ∀ c, c ∈ cs → inN n c.a ∧ inN n c.b) (h : SInv n l cs up to m0) : ∀ i, i ≤ cs.length → PInv n l cs up to m0 (fun a b => ∃ j, j < i ∧ EdgJ l cs up j a b) (pasP l cs up (m0, false) i)
  | 0, _ => ⟨h, fun _ => ⟨rfl, fun a b ⟨j, hj, _⟩ => by omega⟩, fun h => by simp [pasP] at h⟩
  | i + 1, hi => by
    have ih := pasP_ok hn hC h i (by omega)
    obtain ⟨ha, hb⟩ := hC _ (getD_mem default (show i < cs.length by omega))
    simp only [pasP]
    generalize hc : cs.getD i default = c at *
    cases hs : skp l up c i
    · simp only [cond_false]
      have hE : ∀ (x y : Int) (f : Bool), (x = c.a ∧ y = c.b) ∨ (x = c.b ∧ y = c.a) → (!aboveB l y (x, f).1 || !(x, f).2) = true → Edg l cs up (x, f) (y, !aboveB l y (x, f).1) :=
        fun x y f hxy ho => ⟨i, by omega, by rw [hc]; exact hs, by rw [hc]; exact hxy, rfl, ho⟩
      have i1 := imp2_ok hn ih (s := (c.a, false)) (y := c.b) ha (hE _ _ _ (.inl ⟨rfl, rfl⟩))
      have i2 := imp2_ok hn i1 (s := (c.b, false)) (y := c.a) hb (hE _ _ _ (.inr ⟨rfl, rfl⟩))
      have i3 := imp2_ok hn i2 (s := (c.a, true)) (y := c.b) ha (hE _ _ _ (.inl ⟨rfl, rfl⟩))
      have i4 := imp2_ok hn i3 (s := (c.b, true)) (y := c.a) hb (hE _ _ _ (.inr ⟨rfl, rfl⟩))
      refine i4.mono fun a b ⟨j, hj, he⟩ => ?_
      by_cases hji : j = i
      · subst hji
        obtain ⟨e1, e2, e3, e4⟩ := he
        rw [hc] at e2
        obtain ⟨x, f⟩ := a
        obtain ⟨y, g⟩ := b
        simp only at e2 e3 e4
        subst e3
        rcases e2 with ⟨rfl, rfl⟩ | ⟨rfl, rfl⟩ <;> cases f
        · exact .inl (.inl (.inl (.inr ⟨rfl, rfl, e4⟩)))
        · exact .inl (.inr ⟨rfl, rfl, e4⟩)
        · exact .inl (.inl (.inr ⟨rfl, rfl, e4⟩))
        · exact .inr ⟨rfl, rfl, e4⟩
      · exact .inl (.inl (.inl (.inl ⟨j, by omega, he⟩)))
    · simp only [cond_true]
      refine ih.mono fun a b ⟨j, hj, he⟩ => ?_
      by_cases hji : j = i
      · subst hji
        have := he.1
        rw [hc, hs] at this
        simp at this
      · exact ⟨j, by omega, he⟩
/-- One row of trials over all cables. -/
def pas (l : List Int) (cs : List Cb) (up : List Bool) (m : Mp) : Mp × Bool := pasP l cs up (m, false) cs.length
theorem pas_ok {n : Nat} {l : List Int} {cs : List Cb} {up : List Bool} {to : Int} {m : Mp} (hn : n ≤ 100) (hC : ∀ c, c ∈ cs → inN n c.a ∧ inN n c.b) (h : SInv n l cs up to m) :
    SInv n l cs up to (pas l cs up m).1 ∧ ((pas l cs up m).2 = false → (pas l cs up m).1 = m ∧ ∀ s t, Edg l cs up s t → Cls m s t) ∧ ((pas l cs up m).2 = true → muS n (pas l cs up m).1 < muS n m) := by
  have := pasP_ok hn hC h cs.length (Nat.le_refl _)
  exact ⟨this.inv, fun hf => this.same hf, this.less⟩
def iterP (l : List Int) (cs : List Cb) (up : List Bool) : Nat → Mp → Mp
  | 0, m => m
  | k + 1, m => bif (pas l cs up m).2 then iterP l cs up k (pas l cs up m).1 else m
theorem iterP_ok {n : Nat} {l : List Int} {cs : List Cb} {up : List Bool} {to : Int} (hn : n ≤ 100) (hC : ∀ c, c ∈ cs → inN n c.a ∧ inN n c.b) : ∀ (k : Nat) (m : Mp), SInv n l cs up to m → muS n m < k → SInv n l cs up to (iterP l cs up k m) ∧ ∀ s t, Edg l cs up s t → Cls (iterP l cs up k m) s t
  | 0, m, _, hk => by omega
  | k + 1, m, h, hk => by
    obtain ⟨h1, h2, h3⟩ := pas_ok hn hC h
    simp only [iterP]
    cases hp : (pas l cs up m).2
    · exact ⟨h, (h2 hp).2⟩
    · exact iterP_ok hn hC k _ h1 (by have := h3 hp; omega)
def mp0 (to : Int) : Mp := pt (to, true) 0 (pt (to, false) 0 [])
theorem mp0_eq (to : Int) : mp0 to = [((to, false), 0), ((to, true), 0)] := by
  show (if ((to, false) : St) = (to, true) then [((to, false), (0 : Int))] else [((to, false), 0), ((to, true), 0)]) = _
  rw [if_neg (by simp)]
/-- What the program's search finds. -/
def srcM (n : Nat) (l : List Int) (cs : List Cb) (up : List Bool) (to : Int) : Mp := if lvl l to < 0 then [] else iterP l cs up (2000 * n + 1) (mp0 to)
theorem mp0_inv {n : Nat} {l : List Int} {cs : List Cb} {up : List Bool} {to : Int} (ht : inN n to) : SInv n l cs up to (mp0 to) := by
  rw [mp0_eq]
  refine ⟨fun q hq => ?_, by simp, fun b => by cases b <;> simp [lk], fun s d hd => ?_⟩
  · simp at hq; rcases hq with rfl | rfl <;> exact ht
  · have : s.1 = to ∧ d = 0 := by
      simp only [lk] at hd
      split at hd
      · rename_i e; simp at hd; exact ⟨by rw [← e], hd.symm⟩
      · split at hd
        · rename_i e; simp at hd; exact ⟨by rw [← e], hd.symm⟩
        · simp at hd
    exact ⟨by omega, by simp; omega, .inl this⟩
theorem mu_le {n : Nat} {m : Mp} (h : ∀ s d, lk s m = some d → d ≤ 1000) : muS n m ≤ 2000 * n := by
  unfold muS
  have key : ∀ s, ((lk s m).getD 1000).toNat ≤ 1000 := by
    intro s
    rcases lk_or s m with h1 | ⟨d, h1⟩
    · rw [h1]; simp
    · rw [h1]; have := h s d h1; simp; omega
  have := sum_le (f := fun (i : Nat) => ((lk ((i : Int), false) m).getD 1000).toNat + ((lk ((i : Int), true) m).getD 1000).toNat) (g := fun _ => 2000) n (fun i _ => by have := key ((i : Int), false); have := key ((i : Int), true); omega)
  simp only [List.map_const', List.length_range, List.sum_replicate_nat] at this
  omega
/-- The length from a state to the destination, or -1. -/
def dS (n : Nat) (l : List Int) (cs : List Cb) (up : List Bool) (to : Int) (s : St) : Int := (lk s (srcM n l cs up to)).getD (-1)
structure DFacts (n : Nat) (l : List Int) (cs : List Cb) (up : List Bool) (to : Int) (D : St → Int) : Prop where
  low : ∀ s, D s = -1 ∨ (0 ≤ D s ∧ D s < 2 * n)
  zero : ∀ s, D s = 0 ↔ s.1 = to ∧ 0 ≤ lvl l to
  next : ∀ s, 0 < D s → ∃ t, Edg l cs up s t ∧ D t = D s - 1
  edge : ∀ s t, Edg l cs up s t → 0 ≤ D t → 0 ≤ D s ∧ D s ≤ D t + 1
theorem d_facts {n : Nat} {l : List Int} {cs : List Cb} {up : List Bool} {to : Int} (hn : n ≤ 100) (hC : ∀ c, c ∈ cs → inN n c.a ∧ inN n c.b) (ht : inN n to) : DFacts n l cs up to (dS n l cs up to) := by
  unfold dS srcM
  by_cases h0 : lvl l to < 0
  · simp only [h0, if_true, lk, Option.getD_none]
    exact ⟨fun _ => .inl rfl, fun s => by constructor <;> intro h <;> omega, fun s h => by omega, fun s t _ h => by omega⟩
  · simp only [h0, if_false]
    obtain ⟨hi, hc⟩ := iterP_ok hn hC (2000 * n + 1) _ (mp0_inv (l := l) (cs := cs) (up := up) ht) (by
      have := mu_le (n := n) (m := mp0 to) (fun s d hd => by have := (mp0_inv (l := l) (cs := cs) (up := up) ht).val s d hd; rw [mp0_eq] at this; simp at this; omega)
      omega)
    generalize iterP l cs up (2000 * n + 1) (mp0 to) = m at *
    have hlen := hi.len
    refine ⟨fun s => ?_, fun s => ?_, fun s h => ?_, fun s t he h => ?_⟩
    · rcases lk_or s m with h1 | ⟨d, h1⟩
      · rw [h1]; exact .inl rfl
      · rw [h1]
        have := hi.val s d h1
        right; simp; omega
    · rcases lk_or s m with h1 | ⟨d, h1⟩
      · rw [h1]
        constructor
        · intro h; simp at h
        · rintro ⟨h2, _⟩
          have := hi.tgt s.2
          rw [← h2] at this
          rw [this] at h1; simp at h1
      · rw [h1]
        constructor
        · intro h
          simp at h
          subst h
          rcases (hi.val s 0 h1).2.2 with h3 | ⟨t, d', _, h4, h5⟩
          · exact ⟨h3.1, by omega⟩
          · have := (hi.val t d' h4).1; omega
        · rintro ⟨h2, _⟩
          have := hi.tgt s.2
          rw [← h2] at this
          rw [this] at h1; simp at h1; simp; omega
    · rcases lk_or s m with h1 | ⟨d, h1⟩
      · rw [h1] at h; simp at h
      · rw [h1] at h ⊢
        simp at h
        rcases (hi.val s d h1).2.2 with h3 | ⟨t, d', h3, h4, h5⟩
        · omega
        · obtain ⟨o, h6, h7⟩ := hc s t h3 d' h4
          rw [h1] at h6
          simp at h6
          exact ⟨t, h3, by rw [h4]; simp; omega⟩
    · rcases lk_or t m with h1 | ⟨d, h1⟩
      · rw [h1] at h; simp at h
      · obtain ⟨o, h6, h7⟩ := hc s t he d h1
        rw [h1, h6]
        have := (hi.val s o h6).1
        simp; omega
end Go.Proofs.Ytibpkgopbecfoaa
namespace Go.Proofs.Ytibpkgopbecfoaa
set_option linter.unusedSimpArgs false
set_option linter.unusedVariables false
open Go.RowKit
set_option maxRecDepth 20000

theorem SInv.ok {n : Nat} {l : List Int} {cs : List Cb} {up : List Bool} {to : Int} {m : Mp} (hn : n ≤ 100) (h : SInv n l cs up to m) : mOk m ∧ ∀ t d, lk t m = some d → In64 (d + 1) := by
  refine ⟨fun q hq => ?_, fun t d hd => ?_⟩
  · have := h.key q hq
    unfold inN at this
    unfold In64; omega
  · have := h.val t d hd
    have := h.len
    unfold In64; omega
def qk (l : List Int) (q : Mp × Bool) (c : Cb) : Nat → Mp × Bool
  | 0 => q
  | k + 1 => cab4 l (qk l q c k) c (decide (k = 1))
theorem ev_pas (p : Pl) (hv : validE p = 0) (l : List Int) (hl : l.length = p.ns.length) (up : List Bool) (hup : up.length = p.cs.length) (to : Int) (m : Mp) (h : SInv p.ns.length l p.cs up to m) :
    LCall Try.prog 69 [.ptr 0 0 0 0 0, .ptr 2 0 0 0 0, .ptr 1 0 0 0 0, .ptr 5 0 0 0 0] (mkH (sH p l up m)) (.sc (.bool (pas l p.cs up m).2)) (mkH (sH p l up (pas l p.cs up m).1)) := by
  have hV := valid_of hv
  have hn : p.ns.length ≤ 100 := by have := hV.n16; omega
  have hcall : ∀ (q : Mp × Bool) (D : St → St → Prop) (x y : Int) (f : Bool) (ob : List LV), allC 7 ob → PInv p.ns.length l p.cs up to m D q → inN p.ns.length x → inN p.ns.length y →
      LCall Try.prog 68 [.agg [.sc (.int .i64 x), .sc (.bool f)], .sc (.int .i64 y), .ptr 1 0 0 0 0, .ptr 4 0 0 0 0]
        (mkH (sH p l up q.1 ++ [(0, .box ob)])) (.sc (.bool (imp l q.1 (x, f) y).2)) (mkH (sH p l up (imp l q.1 (x, f) y).1 ++ [(0, .box ob)])) := by
    intro q D x y f ob hob hq hx hy
    obtain ⟨h1, h2⟩ := hq.inv.ok hn
    unfold inN at hx hy
    exact ev_imp p l q.1 h1 up (x, f) (by unfold In64; simp only; omega) y (by unfold In64; omega) h2 ob hob
  refine lcall_of_lwp Try.func69 comp69 (show 4 ≤ Try.f69.ntmps by decide) (by simp [sH, mkH]) ?_
  unfold cf69 rf69 sH
  simp only [↓EVP0, EVQ0, EVQ1, EVQ2, EVQ3, EVQ4, EVA, EVK, EVF, ↓reduceIte, Nat.reduceEqDiff, Nat.reduceAdd, Nat.reduceSub, Nat.reduceMul, Nat.reduceLT, Nat.reduceLeDiff, reduceCtorEq, Int.reduceToNat, Int.reduceLT, Int.reduceLE, Int.reduceAdd, Int.reduceSub, Int.reduceMul, Int.reduceNeg, Int.reduceEq, Nat.reduceMod, forall_eq_or_imp, forall_eq, forall_const, cond_true, cond_false, decide_true, decide_false, true_imp_iff, implies_true, Int.cast_ofNat_Int, forall_eq']
  intro _
  refine lwp_for (α := Unit) p.cs.length (fun i _ => True) (fun i _ => [(1, .ptr 2 0 0 0 0), (2, .ptr 1 0 0 0 0), (3, .ptr 5 0 0 0 0), (5, .sc (.bool (pasP l p.cs up (m, false) i).2)), (11, .rsl 6 p.cs.length (cbsF p.cs)), (12, .sc (.int .i64 p.cs.length)), (13, .sc (.int .i64 i))])
    (fun i _ => sH p l up (pasP l p.cs up (m, false) i).1) () trivial ?_ (fun _ _ => by simp [sH, mkH]) ?_
  · unfold sH
    simp only [↓EVP0, EVQ0, EVQ1, EVQ2, EVQ3, EVQ4, EVA, EVK, EVF, ↓reduceIte, Nat.reduceEqDiff, Nat.reduceAdd, Nat.reduceSub, Nat.reduceMul, Nat.reduceLT, Nat.reduceLeDiff, reduceCtorEq, Int.reduceToNat, Int.reduceLT, Int.reduceLE, Int.reduceAdd, Int.reduceSub, Int.reduceMul, Int.reduceNeg, Int.reduceEq, Nat.reduceMod, forall_eq_or_imp, forall_eq, forall_const, cond_true, cond_false, decide_true, decide_false, true_imp_iff, implies_true, Int.cast_ofNat_Int, forall_eq']
    simp only [pasP]
    exact ⟨trivial, trivial, allC_kvM _ _⟩
  intro i _ hi _
  have hP := pasP_ok hn hV.cab h i hi
  have hstep : pasP l p.cs up (m, false) (i + 1) = bif skp l up (p.cs.getD i default) i then pasP l p.cs up (m, false) i else cab4 l (cab4 l (pasP l p.cs up (m, false) i) (p.cs.getD i default) false) (p.cs.getD i default) true := rfl
  have hlast : i = p.cs.length → pas l p.cs up m = pasP l p.cs up (m, false) i := fun e => by subst e; rfl
  generalize pasP l p.cs up (m, false) i = q at *
  rw [hstep]
  have a1 : ∀ (k : Nat) (m : Mp), allC k ((kvM m).map (·.2)) := allC_kvM
  unfold lb69_1 sH
  simp only [↓EVP0, EVQ0, EVQ1, EVQ2, EVQ3, EVQ4, EVA, EVK, EVF, ↓reduceIte, Nat.reduceEqDiff, Nat.reduceAdd, Nat.reduceSub, Nat.reduceMul, Nat.reduceLT, Nat.reduceLeDiff, reduceCtorEq, Int.reduceToNat, Int.reduceLT, Int.reduceLE, Int.reduceAdd, Int.reduceSub, Int.reduceMul, Int.reduceNeg, Int.reduceEq, Nat.reduceMod, forall_eq_or_imp, forall_eq, forall_const, cond_true, cond_false, decide_true, decide_false, true_imp_iff, implies_true, Int.cast_ofNat_Int, forall_eq']
  refine ⟨fun hg => ?_, fun hg => ?_⟩
  · have hi2 : i < p.cs.length := by have := of_decide_eq_true hg; omega
    obtain ⟨ca, cb⟩ := hV.cab _ (getD_mem default hi2)
    generalize hc : p.cs.getD i default = c at *
    have hs : (bif bif !up.getD i false then true else decide (l.getD c.a.toNat 0 < 0) then true else decide (l.getD c.b.toNat 0 < 0)) = skp l up c i := by
      unfold skp lvl; rw [condT, condT]
    rw [hs]
    unfold inN at ca cb
    refine ⟨⟨by omega, by omega⟩, ⟨by omega, by omega⟩, fun _ => ⟨by omega, by omega⟩, fun _ => ⟨by omega, by omega⟩, fun h => ?_, fun h => ?_⟩
    · rw [h, cond_true]
      exact ⟨by unfold In64; omega, hi2, (), rfl, rfl, a1 _ _⟩
    rw [h, cond_false]
    have hE : ∀ (x y : Int) (f : Bool), (x = c.a ∧ y = c.b) ∨ (x = c.b ∧ y = c.a) → (!aboveB l y (x, f).1 || !(x, f).2) = true → Edg l p.cs up (x, f) (y, !aboveB l y (x, f).1) :=
      fun x y f hxy ho => ⟨i, hi2, by rw [hc]; exact h, by rw [hc]; exact hxy, rfl, ho⟩
    have hin : inN p.ns.length c.a ∧ inN p.ns.length c.b := ⟨ca, cb⟩
    refine lwp_for (α := Unit) 2 (fun k _ => ∃ D, PInv p.ns.length l p.cs up to m D (qk l q c k)) (fun k _ => [(1, .ptr 2 0 0 0 0), (2, .ptr 1 0 0 0 0), (3, .ptr 5 0 0 0 0), (5, .sc (.bool (qk l q c k).2)), (7, .ptr 6 0 0 0 0), (11, .rsl 6 p.cs.length (cbsF p.cs)), (12, .sc (.int .i64 p.cs.length)), (13, .sc (.int .i64 i)), (41, .agg [.sc (.bool false), .sc (.bool true)]), (42, .sc (.int .i64 k))])
      (fun k _ => sH p l up (qk l q c k).1 ++ [(0, .box (cbL c))]) () ⟨_, hP⟩ ?_ (fun _ _ => by simp [sH]) ?_
    · unfold sH cbL
      simp only [↓EVP0, EVQ0, EVQ1, EVQ2, EVQ3, EVQ4, EVA, EVK, EVF, ↓reduceIte, Nat.reduceEqDiff, Nat.reduceAdd, Nat.reduceSub, Nat.reduceMul, Nat.reduceLT, Nat.reduceLeDiff, reduceCtorEq, Int.reduceToNat, Int.reduceLT, Int.reduceLE, Int.reduceAdd, Int.reduceSub, Int.reduceMul, Int.reduceNeg, Int.reduceEq, Nat.reduceMod, forall_eq_or_imp, forall_eq, forall_const, cond_true, cond_false, decide_true, decide_false, true_imp_iff, implies_true, Int.cast_ofNat_Int, forall_eq']
      exact ⟨rfl, rfl, a1 _ _⟩
    rintro k _ hk ⟨D, hD⟩
    have hqs : qk l q c (k + 1) = cab4 l (qk l q c k) c (decide (k = 1)) := rfl
    have hq2 : k = 2 → qk l q c k = cab4 l (cab4 l q c false) c true := fun e => by subst e; rfl
    generalize qk l q c k = r at *
    rw [hqs]
    unfold lb69_0 sH cbL
    simp only [↓EVP0, EVQ0, EVQ1, EVQ2, EVQ3, EVQ4, EVA, EVK, EVF, ↓reduceIte, Nat.reduceEqDiff, Nat.reduceAdd, Nat.reduceSub, Nat.reduceMul, Nat.reduceLT, Nat.reduceLeDiff, reduceCtorEq, Int.reduceToNat, Int.reduceLT, Int.reduceLE, Int.reduceAdd, Int.reduceSub, Int.reduceMul, Int.reduceNeg, Int.reduceEq, Nat.reduceMod, forall_eq_or_imp, forall_eq, forall_const, cond_true, cond_false, decide_true, decide_false, true_imp_iff, implies_true, Int.cast_ofNat_Int, forall_eq']
    refine ⟨fun hg => ?_, fun hg => ?_⟩
    · have hk2 : k < 2 := by have := of_decide_eq_true hg; omega
      obtain ⟨b, hb, hb2⟩ : ∃ b : Bool, decide (k = 1) = b ∧ ([LV.sc (.bool false), .sc (.bool true)].drop (k * 1)).getD 0 .any = .sc (.bool b) ∧ 1 ≤ ([LV.sc (.bool false), .sc (.bool true)].drop (k * 1)).length := by
        obtain rfl | rfl : k = 0 ∨ k = 1 := by omega
        · exact ⟨false, rfl, rfl, by decide⟩
        · exact ⟨true, rfl, rfl, by decide⟩
      rw [hb]
      simp only [hb2.1]
      simp only [↓EVP0, EVQ0, EVQ1, EVQ2, EVQ3, EVQ4, EVA, EVK, EVF, ↓reduceIte, Nat.reduceEqDiff, Nat.reduceAdd, Nat.reduceSub, Nat.reduceMul, Nat.reduceLT, Nat.reduceLeDiff, reduceCtorEq, Int.reduceToNat, Int.reduceLT, Int.reduceLE, Int.reduceAdd, Int.reduceSub, Int.reduceMul, Int.reduceNeg, Int.reduceEq, Nat.reduceMod, forall_eq_or_imp, forall_eq, forall_const, cond_true, cond_false, decide_true, decide_false, true_imp_iff, implies_true, Int.cast_ofNat_Int, forall_eq']
      refine ⟨⟨⟨by omega, by omega⟩, hb2.2⟩, by decide, ?_⟩
      have d1 := imp2_ok hn hD (s := (c.a, b)) (y := c.b) hin.1 (hE _ _ _ (.inl ⟨rfl, rfl⟩))
      have d2 := imp2_ok hn d1 (s := (c.b, b)) (y := c.a) hin.2 (hE _ _ _ (.inr ⟨rfl, rfl⟩))
      have k1 := hcall r D c.a c.b b (cbL c) (by unfold cbL; simp only [↓EVP0, EVQ0, EVQ1, EVQ2, EVQ3, EVQ4, EVA, EVK, EVF, ↓reduceIte, Nat.reduceEqDiff, Nat.reduceAdd, Nat.reduceSub, Nat.reduceMul, Nat.reduceLT, Nat.reduceLeDiff, reduceCtorEq, Int.reduceToNat, Int.reduceLT, Int.reduceLE, Int.reduceAdd, Int.reduceSub, Int.reduceMul, Int.reduceNeg, Int.reduceEq, Nat.reduceMod, forall_eq_or_imp, forall_eq, forall_const, cond_true, cond_false, decide_true, decide_false, true_imp_iff, implies_true, Int.cast_ofNat_Int, forall_eq']) hD hin.1 hin.2
      have k2 := hcall (imp2 l r (c.a, b) c.b) _ c.b c.a b (cbL c) (by unfold cbL; simp only [↓EVP0, EVQ0, EVQ1, EVQ2, EVQ3, EVQ4, EVA, EVK, EVF, ↓reduceIte, Nat.reduceEqDiff, Nat.reduceAdd, Nat.reduceSub, Nat.reduceMul, Nat.reduceLT, Nat.reduceLeDiff, reduceCtorEq, Int.reduceToNat, Int.reduceLT, Int.reduceLE, Int.reduceAdd, Int.reduceSub, Int.reduceMul, Int.reduceNeg, Int.reduceEq, Nat.reduceMod, forall_eq_or_imp, forall_eq, forall_const, cond_true, cond_false, decide_true, decide_false, true_imp_iff, implies_true, Int.cast_ofNat_Int, forall_eq']) d1 hin.2 hin.1
      have e : cab4 l r c b = imp2 l (imp2 l r (c.a, b) c.b) (c.b, b) c.a := rfl
      rw [e]
      have e1 : (imp l r.1 (c.a, b) c.b).1 = (imp2 l r (c.a, b) c.b).1 := rfl
      unfold sH cbL at k1 k2
      refine callK_mut k1 ?_
      simp only [↓EVP0, EVQ0, EVQ1, EVQ2, EVQ3, EVQ4, EVA, EVK, EVF, ↓reduceIte, Nat.reduceEqDiff, Nat.reduceAdd, Nat.reduceSub, Nat.reduceMul, Nat.reduceLT, Nat.reduceLeDiff, reduceCtorEq, Int.reduceToNat, Int.reduceLT, Int.reduceLE, Int.reduceAdd, Int.reduceSub, Int.reduceMul, Int.reduceNeg, Int.reduceEq, Nat.reduceMod, forall_eq_or_imp, forall_eq, forall_const, cond_true, cond_false, decide_true, decide_false, true_imp_iff, implies_true, Int.cast_ofNat_Int, forall_eq']
      simp only [hb2.1, condT]
      simp only [↓EVP0, EVQ0, EVQ1, EVQ2, EVQ3, EVQ4, EVA, EVK, EVF, ↓reduceIte, Nat.reduceEqDiff, Nat.reduceAdd, Nat.reduceSub, Nat.reduceMul, Nat.reduceLT, Nat.reduceLeDiff, reduceCtorEq, Int.reduceToNat, Int.reduceLT, Int.reduceLE, Int.reduceAdd, Int.reduceSub, Int.reduceMul, Int.reduceNeg, Int.reduceEq, Nat.reduceMod, forall_eq_or_imp, forall_eq, forall_const, cond_true, cond_false, decide_true, decide_false, true_imp_iff, implies_true, Int.cast_ofNat_Int, forall_eq']
      refine ⟨by decide, callK_mut k2 ?_⟩
      simp only [↓EVP0, EVQ0, EVQ1, EVQ2, EVQ3, EVQ4, EVA, EVK, EVF, ↓reduceIte, Nat.reduceEqDiff, Nat.reduceAdd, Nat.reduceSub, Nat.reduceMul, Nat.reduceLT, Nat.reduceLeDiff, reduceCtorEq, Int.reduceToNat, Int.reduceLT, Int.reduceLE, Int.reduceAdd, Int.reduceSub, Int.reduceMul, Int.reduceNeg, Int.reduceEq, Nat.reduceMod, forall_eq_or_imp, forall_eq, forall_const, cond_true, cond_false, decide_true, decide_false, true_imp_iff, implies_true, Int.cast_ofNat_Int, forall_eq']
      simp only [condT]
      exact ⟨by unfold In64; omega, hk2, (), ⟨_, d2⟩, rfl, rfl, a1 _ _⟩
    · have hkk : k = 2 := by have := of_decide_eq_false hg; omega
      rw [hq2 hkk]
      exact ⟨by unfold In64; omega, hi2, (), rfl, rfl, a1 _ _⟩
  · have hii : i = p.cs.length := by have := of_decide_eq_false hg; omega
    rw [hlast hii]
    unfold fin2
    simp only [↓EVP0, EVQ0, EVQ1, EVQ2, EVQ3, EVQ4, EVA, EVK, EVF, ↓reduceIte, Nat.reduceEqDiff, Nat.reduceAdd, Nat.reduceSub, Nat.reduceMul, Nat.reduceLT, Nat.reduceLeDiff, reduceCtorEq, Int.reduceToNat, Int.reduceLT, Int.reduceLE, Int.reduceAdd, Int.reduceSub, Int.reduceMul, Int.reduceNeg, Int.reduceEq, Nat.reduceMod, forall_eq_or_imp, forall_eq, forall_const, cond_true, cond_false, decide_true, decide_false, true_imp_iff, implies_true, Int.cast_ofNat_Int, forall_eq']
    exact a1 _ _
theorem ev_search (p : Pl) (hv : validE p = 0) (l : List Int) (hl : l.length = p.ns.length) (up : List Bool) (hup : up.length = p.cs.length) (to : Int) (ht : inN p.ns.length to) :
    Ev Try.prog 54 [plV p, .agg [intsV l], boolsV up, .sc (.int .i64 to)] (.rmp (kvM (srcM p.ns.length l p.cs up to))) := by
  have hV := valid_of hv
  have hn : p.ns.length ≤ 100 := by have := hV.n16; omega
  have ht' := ht
  unfold inN at ht'
  have hto : In64 to := by unfold In64; omega
  have a1 : ∀ (k : Nat) (m : Mp), allC k ((kvM m).map (·.2)) := allC_kvM
  unfold plV boolsV intsV
  refine ev_fn Try.func54 comp54 (show 4 ≤ Try.f54.ntmps by decide) ?_; unfold cf54 rf54; simp only [↓EVP0, EVQ0, EVQ1, EVQ2, EVQ3, EVQ4, EVA, EVK, EVF, ↓reduceIte, Nat.reduceEqDiff, Nat.reduceAdd, Nat.reduceSub, Nat.reduceMul, Nat.reduceLT, Nat.reduceLeDiff, reduceCtorEq, Int.reduceToNat, Int.reduceLT, Int.reduceLE, Int.reduceAdd, Int.reduceSub, Int.reduceMul, Int.reduceNeg, Int.reduceEq, Nat.reduceMod, forall_eq_or_imp, forall_eq, forall_const, cond_true, cond_false, decide_true, decide_false, true_imp_iff, implies_true, Int.cast_ofNat_Int, forall_eq']
  refine ⟨⟨by omega, by omega⟩, fun h => ?_, fun h => ?_⟩
  · have h0 : lvl l to < 0 := of_decide_eq_true h
    unfold srcM
    rw [if_pos h0]
    exact ⟨rfl, fun kv hkv => by simp [kvM] at hkv⟩
  have h0 : ¬ lvl l to < 0 := of_decide_eq_false h
  have e1 : mput [] (Value.agg #[Value.int IntKind.i64 to, Value.bool false]) (LV.sc (Value.int IntKind.i64 0)) = kvM (pt (to, false) 0 []) := rfl
  have e2 : mput (kvM (pt (to, false) 0 [])) (Value.agg #[Value.int IntKind.i64 to, Value.bool true]) (LV.sc (Value.int IntKind.i64 0)) = kvM (mp0 to) := mput_kvM (to, true) 0 _
  have k1 : keysOk Try.prog 80 [] (Value.agg #[Value.int IntKind.i64 to, Value.bool false]) := keys_kvM (m := []) (s := (to, false)) (fun q hq => by simp at hq) hto
  have k2 : keysOk Try.prog 80 (kvM (pt (to, false) 0 [])) (Value.agg #[Value.int IntKind.i64 to, Value.bool true]) := keys_kvM (s := (to, true)) (fun q hq => by simp [pt] at hq; subst hq; exact hto) hto
  simp only [e1, e2]
  refine ⟨k1, k2, ?_⟩
  have hs : srcM p.ns.length l p.cs up to = iterP l p.cs up (2000 * p.ns.length + 1) (mp0 to) := by unfold srcM; rw [if_neg h0]
  rw [hs]
  refine lwp_loop (α := Mp) (fun m => SInv p.ns.length l p.cs up to m ∧ ∃ k, muS p.ns.length m < k ∧ iterP l p.cs up (2000 * p.ns.length + 1) (mp0 to) = iterP l p.cs up k m) (fun _ => [(9, .ptr 4 0 0 0 0), (11, .fn 69 [.ptr 0 0 0 0 0, .ptr 2 0 0 0 0, .ptr 1 0 0 0 0, .ptr 5 0 0 0 0])])
    (fun m => sH p l up m) (fun m => muS p.ns.length m) (mp0 to) ⟨mp0_inv ht, _, ?_, rfl⟩ ?_ (fun _ => Nat.zero_le _) ?_
  · have := mu_le (n := p.ns.length) (m := mp0 to) (fun s d hd => by have := (mp0_inv (l := l) (cs := p.cs) (up := up) ht).val s d hd; rw [mp0_eq] at this; simp at this; omega)
    omega
  · unfold sH
    simp only [↓EVP0, EVQ0, EVQ1, EVQ2, EVQ3, EVQ4, EVA, EVK, EVF, ↓reduceIte, Nat.reduceEqDiff, Nat.reduceAdd, Nat.reduceSub, Nat.reduceMul, Nat.reduceLT, Nat.reduceLeDiff, reduceCtorEq, Int.reduceToNat, Int.reduceLT, Int.reduceLE, Int.reduceAdd, Int.reduceSub, Int.reduceMul, Int.reduceNeg, Int.reduceEq, Nat.reduceMod, forall_eq_or_imp, forall_eq, forall_const, cond_true, cond_false, decide_true, decide_false, true_imp_iff, implies_true, Int.cast_ofNat_Int, forall_eq']
    exact a1 _ _
  rintro m ⟨hm, k, hk, hit⟩
  have hcall := ev_pas p hv l hl up hup to m hm
  obtain ⟨g1, g2, g3⟩ := pas_ok hn hV.cab hm
  unfold lb54_0
  unfold sH at hcall ⊢
  simp only [↓EVP0, EVQ0, EVQ1, EVQ2, EVQ3, EVQ4, EVA, EVK, EVF, ↓reduceIte, Nat.reduceEqDiff, Nat.reduceAdd, Nat.reduceSub, Nat.reduceMul, Nat.reduceLT, Nat.reduceLeDiff, reduceCtorEq, Int.reduceToNat, Int.reduceLT, Int.reduceLE, Int.reduceAdd, Int.reduceSub, Int.reduceMul, Int.reduceNeg, Int.reduceEq, Nat.reduceMod, forall_eq_or_imp, forall_eq, forall_const, cond_true, cond_false, decide_true, decide_false, true_imp_iff, implies_true, Int.cast_ofNat_Int, forall_eq']
  refine ⟨by decide, callK_mut hcall ?_⟩
  simp only [↓EVP0, EVQ0, EVQ1, EVQ2, EVQ3, EVQ4, EVA, EVK, EVF, ↓reduceIte, Nat.reduceEqDiff, Nat.reduceAdd, Nat.reduceSub, Nat.reduceMul, Nat.reduceLT, Nat.reduceLeDiff, reduceCtorEq, Int.reduceToNat, Int.reduceLT, Int.reduceLE, Int.reduceAdd, Int.reduceSub, Int.reduceMul, Int.reduceNeg, Int.reduceEq, Nat.reduceMod, forall_eq_or_imp, forall_eq, forall_const, cond_true, cond_false, decide_true, decide_false, true_imp_iff, implies_true, Int.cast_ofNat_Int, forall_eq']
  obtain ⟨k', rfl⟩ : ∃ k', k = k' + 1 := ⟨k - 1, by omega⟩
  refine ⟨fun h => ?_, fun h => ?_⟩
  · have hi : iterP l p.cs up (k' + 1) m = iterP l p.cs up k' (pas l p.cs up m).1 := by simp only [iterP]; rw [h]; rfl
    exact ⟨(pas l p.cs up m).1, ⟨g1, k', by have := g3 h; omega, by rw [hit, hi]⟩, ⟨rfl, a1 _ _⟩, g3 h⟩
  · have hi : iterP l p.cs up (k' + 1) m = m := by simp only [iterP]; rw [h]; rfl
    rw [hit, hi, (g2 h).1]
    refine ⟨rfl, fun kv hkv => ?_⟩
    simp only [kvM, List.mem_map] at hkv
    obtain ⟨q, _, rfl⟩ := hkv
    exact trivial
end Go.Proofs.Ytibpkgopbecfoaa
namespace Go.Proofs.Ytibpkgopbecfoaa
set_option linter.unusedSimpArgs false
set_option linter.unusedVariables false
open Go.RowKit
set_option maxRecDepth 20000

theorem ev_dist1 (m : Mp) (hm : mOk m) (s : St) (hs : In64 s.1) : Ev Try.prog 56 [.agg [.sc (.int .i64 s.1), .sc (.bool s.2)], .rptr [.rmp (kvM m)]] (.sc (.int .i64 ((lk s m).getD (-1)))) := by
  refine ev_fn Try.func56 comp56 (show 2 ≤ Try.f56.ntmps by decide) ?_; unfold cf56 rf56; simp only [↓EVP0, EVQ0, EVQ1, EVQ2, EVQ3, EVQ4, EVA, EVK, EVF, ↓reduceIte, Nat.reduceEqDiff, Nat.reduceAdd, Nat.reduceSub, Nat.reduceMul, Nat.reduceLT, Nat.reduceLeDiff, reduceCtorEq, Int.reduceToNat, Int.reduceLT, Int.reduceLE, Int.reduceAdd, Int.reduceSub, Int.reduceMul, Int.reduceNeg, Int.reduceEq, Nat.reduceMod, forall_eq_or_imp, forall_eq, forall_const, cond_true, cond_false, decide_true, decide_false, true_imp_iff, implies_true, Int.cast_ofNat_Int, forall_eq']
  have e2 : mfind (kvM m) (Value.agg #[Value.int IntKind.i64 s.1, Value.bool s.2]) = (lk s m).map fun d => .sc (.int .i64 d) := mfind_kvM s m
  have k2 : keysOk Try.prog 80 (kvM m) (Value.agg #[Value.int IntKind.i64 s.1, Value.bool s.2]) := keys_kvM (s := s) hm hs
  simp only [e2]
  rcases lk_or s m with h | ⟨d, h⟩ <;> rw [h] <;> simp only [Option.map_some, Option.map_none, Option.getD_some, Option.getD_none, Option.isSome_some, Option.isSome_none]
  · simp only [↓EVP0, EVQ0, EVQ1, EVQ2, EVQ3, EVQ4, EVA, EVK, EVF, ↓reduceIte, Nat.reduceEqDiff, Nat.reduceAdd, Nat.reduceSub, Nat.reduceMul, Nat.reduceLT, Nat.reduceLeDiff, reduceCtorEq, Int.reduceToNat, Int.reduceLT, Int.reduceLE, Int.reduceAdd, Int.reduceSub, Int.reduceMul, Int.reduceNeg, Int.reduceEq, Nat.reduceMod, forall_eq_or_imp, forall_eq, forall_const, cond_true, cond_false, decide_true, decide_false, true_imp_iff, implies_true, Int.cast_ofNat_Int, forall_eq']
    exact k2
  · simp only [↓EVP0, EVQ0, EVQ1, EVQ2, EVQ3, EVQ4, EVA, EVK, EVF, ↓reduceIte, Nat.reduceEqDiff, Nat.reduceAdd, Nat.reduceSub, Nat.reduceMul, Nat.reduceLT, Nat.reduceLeDiff, reduceCtorEq, Int.reduceToNat, Int.reduceLT, Int.reduceLE, Int.reduceAdd, Int.reduceSub, Int.reduceMul, Int.reduceNeg, Int.reduceEq, Nat.reduceMod, forall_eq_or_imp, forall_eq, forall_const, cond_true, cond_false, decide_true, decide_false, true_imp_iff, implies_true, Int.cast_ofNat_Int, forall_eq']
    exact k2
theorem srcM_ok {p : Pl} (hv : validE p = 0) (l : List Int) (up : List Bool) {to : Int} (ht : inN p.ns.length to) : mOk (srcM p.ns.length l p.cs up to) := by
  have hV := valid_of hv
  have hn : p.ns.length ≤ 100 := by have := hV.n16; omega
  unfold srcM
  split
  · intro q hq; simp at hq
  · refine ((iterP_ok hn hV.cab (2000 * p.ns.length + 1) _ (mp0_inv (l := l) (cs := p.cs) (up := up) ht) ?_).1.ok hn).1
    have := mu_le (n := p.ns.length) (m := mp0 to) (fun s d hd => by have := (mp0_inv (l := l) (cs := p.cs) (up := up) ht).val s d hd; rw [mp0_eq] at this; simp at this; omega)
    omega
def dL (n : Nat) (l : List Int) (cs : List Cb) (up : List Bool) (to : Int) (b : Bool) (k : Nat) : List Int := (List.range k).map fun (x : Nat) => dS n l cs up to ((x : Int), b)
theorem dL_succ (n : Nat) (l : List Int) (cs : List Cb) (up : List Bool) (to : Int) (b : Bool) (k : Nat) : dL n l cs up to b (k + 1) = dL n l cs up to b k ++ [dS n l cs up to ((k : Int), b)] := by
  unfold dL; rw [List.range_succ, List.map_append]; rfl
theorem dL_len (n : Nat) (l : List Int) (cs : List Cb) (up : List Bool) (to : Int) (b : Bool) (k : Nat) : (dL n l cs up to b k).length = k := by simp [dL]
def distE (p : Pl) (l : List Int) (up : List Bool) (to : Int) : (List Int × List Int) × Int :=
  if ordB p l = true ∧ up.length = p.cs.length then (if nodB p to = true then ((dL p.ns.length l p.cs up to false p.ns.length, dL p.ns.length l p.cs up to true p.ns.length), 0) else (([], []), 2)) else (([], []), 1)
theorem roTo2_map {h : LH} {k ver : Nat} {es : List (Value × LV)} (hk : k < h.n) (hv : h.f k = (ver, .box [.rmp es])) : roTo2 h (.ptr k ver 0 0 0) (.rptr [.rmp es]) := by
  refine ⟨hk, by rw [hv], rfl, rfl, rfl, ?_⟩
  rw [hv]
  exact ⟨⟨rfl, trivial⟩, trivial⟩
theorem ev_Dist (p : Pl) (hp : PlOk p) (l : List Int) (up : List Bool) (to : Int) :
    Ev Try.prog 25 [plV p, .agg [intsV l], boolsV up, .sc (.int .i64 to)] (.tup [intsV (distE p l up to).1.1, intsV (distE p l up to).1.2, .sc (.int .i64 (distE p l up to).2)]) := by
  have h1 := ev_ordValid p hp l
  have h2 := ev_isNode p to
  have h3 := fun hv hl hup ht => ev_search p hv l hl up hup to ht
  unfold plV boolsV intsV at *
  refine ev_fn Try.func25 comp25 (show 4 ≤ Try.f25.ntmps by decide) ?_; unfold cf25 rf25; simp only [↓EVP0, EVQ0, EVQ1, EVQ2, EVQ3, EVQ4, EVA, EVK, EVF, ↓reduceIte, Nat.reduceEqDiff, Nat.reduceAdd, Nat.reduceSub, Nat.reduceMul, Nat.reduceLT, Nat.reduceLeDiff, reduceCtorEq, Int.reduceToNat, Int.reduceLT, Int.reduceLE, Int.reduceAdd, Int.reduceSub, Int.reduceMul, Int.reduceNeg, Int.reduceEq, Nat.reduceMod, forall_eq_or_imp, forall_eq, forall_const, cond_true, cond_false, decide_true, decide_false, true_imp_iff, implies_true, Int.cast_ofNat_Int, forall_eq']
  refine callK_ro (h1) ?_ ?_
  · simp only [↓EVP0, EVQ0, EVQ1, EVQ2, EVQ3, EVQ4, EVA, EVK, EVF, ↓reduceIte, Nat.reduceEqDiff, Nat.reduceAdd, Nat.reduceSub, Nat.reduceMul, Nat.reduceLT, Nat.reduceLeDiff, reduceCtorEq, Int.reduceToNat, Int.reduceLT, Int.reduceLE, Int.reduceAdd, Int.reduceSub, Int.reduceMul, Int.reduceNeg, Int.reduceEq, Nat.reduceMod, forall_eq_or_imp, forall_eq, forall_const, cond_true, cond_false, decide_true, decide_false, true_imp_iff, implies_true, Int.cast_ofNat_Int, forall_eq']
  simp only [↓EVP0, EVQ0, EVQ1, EVQ2, EVQ3, EVQ4, EVA, EVK, EVF, ↓reduceIte, Nat.reduceEqDiff, Nat.reduceAdd, Nat.reduceSub, Nat.reduceMul, Nat.reduceLT, Nat.reduceLeDiff, reduceCtorEq, Int.reduceToNat, Int.reduceLT, Int.reduceLE, Int.reduceAdd, Int.reduceSub, Int.reduceMul, Int.reduceNeg, Int.reduceEq, Nat.reduceMod, forall_eq_or_imp, forall_eq, forall_const, cond_true, cond_false, decide_true, decide_false, true_imp_iff, implies_true, Int.cast_ofNat_Int, forall_eq']
  have ec : (bif !ordB p l then true else !decide ((up.length : Int) = p.cs.length)) = !decide (ordB p l = true ∧ up.length = p.cs.length) := by
    have e : decide ((up.length : Int) = p.cs.length) = decide (up.length = p.cs.length) := decide_eq_decide.2 Int.ofNat_inj
    rw [e]
    by_cases h1 : ordB p l = true <;> by_cases h2 : up.length = p.cs.length <;> simp [h1, h2]
  rw [ec]
  refine ⟨fun h => ?_, fun h => ?_⟩
  · have e : distE p l up to = (([], []), 1) := by
      unfold distE; rw [if_neg (by intro h2; rw [decide_eq_true h2] at h; simp at h)]
    rw [e]; simp
  have hh : ordB p l = true ∧ up.length = p.cs.length := by simpa using h
  have hO := ord_of hh.1
  refine callK_ro (h2) ?_ ?_
  · simp only [↓EVP0, EVQ0, EVQ1, EVQ2, EVQ3, EVQ4, EVA, EVK, EVF, ↓reduceIte, Nat.reduceEqDiff, Nat.reduceAdd, Nat.reduceSub, Nat.reduceMul, Nat.reduceLT, Nat.reduceLeDiff, reduceCtorEq, Int.reduceToNat, Int.reduceLT, Int.reduceLE, Int.reduceAdd, Int.reduceSub, Int.reduceMul, Int.reduceNeg, Int.reduceEq, Nat.reduceMod, forall_eq_or_imp, forall_eq, forall_const, cond_true, cond_false, decide_true, decide_false, true_imp_iff, implies_true, Int.cast_ofNat_Int, forall_eq']
  simp only [↓EVP0, EVQ0, EVQ1, EVQ2, EVQ3, EVQ4, EVA, EVK, EVF, ↓reduceIte, Nat.reduceEqDiff, Nat.reduceAdd, Nat.reduceSub, Nat.reduceMul, Nat.reduceLT, Nat.reduceLeDiff, reduceCtorEq, Int.reduceToNat, Int.reduceLT, Int.reduceLE, Int.reduceAdd, Int.reduceSub, Int.reduceMul, Int.reduceNeg, Int.reduceEq, Nat.reduceMod, forall_eq_or_imp, forall_eq, forall_const, cond_true, cond_false, decide_true, decide_false, true_imp_iff, implies_true, Int.cast_ofNat_Int, forall_eq']
  refine ⟨fun h => ?_, fun h => ?_⟩
  · have e : distE p l up to = (([], []), 2) := by
      unfold distE; rw [if_pos hh, if_neg (by simpa using h)]
    rw [e]; simp
  have hnd : nodB p to = true := by simpa using h
  have ht := nodB_in hnd
  have e : distE p l up to = ((dL p.ns.length l p.cs up to false p.ns.length, dL p.ns.length l p.cs up to true p.ns.length), 0) := by
    unfold distE; rw [if_pos hh, if_pos hnd]
  rw [e]
  clear e
  have hmok := srcM_ok hO.v l up ht
  have hdef : ∀ s, (lk s (srcM p.ns.length l p.cs up to)).getD (-1) = dS p.ns.length l p.cs up to s := fun _ => rfl
  refine callK_ro (h3 hO.v hO.len hh.2 ht) ?_ ?_
  · simp only [↓EVP0, EVQ0, EVQ1, EVQ2, EVQ3, EVQ4, EVA, EVK, EVF, ↓reduceIte, Nat.reduceEqDiff, Nat.reduceAdd, Nat.reduceSub, Nat.reduceMul, Nat.reduceLT, Nat.reduceLeDiff, reduceCtorEq, Int.reduceToNat, Int.reduceLT, Int.reduceLE, Int.reduceAdd, Int.reduceSub, Int.reduceMul, Int.reduceNeg, Int.reduceEq, Nat.reduceMod, forall_eq_or_imp, forall_eq, forall_const, cond_true, cond_false, decide_true, decide_false, true_imp_iff, implies_true, Int.cast_ofNat_Int, forall_eq']
  simp only [↓EVP0, EVQ0, EVQ1, EVQ2, EVQ3, EVQ4, EVA, EVK, EVF, ↓reduceIte, Nat.reduceEqDiff, Nat.reduceAdd, Nat.reduceSub, Nat.reduceMul, Nat.reduceLT, Nat.reduceLeDiff, reduceCtorEq, Int.reduceToNat, Int.reduceLT, Int.reduceLE, Int.reduceAdd, Int.reduceSub, Int.reduceMul, Int.reduceNeg, Int.reduceEq, Nat.reduceMod, forall_eq_or_imp, forall_eq, forall_const, cond_true, cond_false, decide_true, decide_false, true_imp_iff, implies_true, Int.cast_ofNat_Int, forall_eq']
  generalize srcM p.ns.length l p.cs up to = M at *
  have h16 := (valid_of hO.v).n16
  intro _
  refine lwp_for (α := List Int × List Int) p.ns.length (fun i x => True)
    (fun i x => if i = 0 then [(8, .nsl), (9, .nsl), (12, .fn 56 [.ptr 2 0 0 0 0]), (38, .sc (.int .i64 p.ns.length)), (39, .sc (.int .i64 i))]
      else [(8, .sl 4 (i - 1) 1 0 i), (9, .sl 6 (i - 1) 1 0 i), (12, .fn 56 [.ptr 2 0 0 0 0]), (38, .sc (.int .i64 p.ns.length)), (39, .sc (.int .i64 i))])
    (fun i x => if i = 0 then [(0, .box [.rsl 3 p.ns.length (ndsF p.ns), .rsl 6 p.cs.length (cbsF p.cs)]), (0, .box [.rsl 1 l.length (intsF l)]), (0, .box [.rmp (kvM M)])]
      else [(0, .box [.rsl 3 p.ns.length (ndsF p.ns), .rsl 6 p.cs.length (cbsF p.cs)]), (0, .box [.rsl 1 l.length (intsF l)]), (0, .box [.rmp (kvM M)]), (0, .ints x.1), (i - 1, .ints (dL p.ns.length l p.cs up to false i)), (0, .ints x.2), (i - 1, .ints (dL p.ns.length l p.cs up to true i))])
    ([], []) trivial ?_ (fun _ _ => Nat.zero_le _) ?_
  · simp only [↓EVP0, EVQ0, EVQ1, EVQ2, EVQ3, EVQ4, EVA, EVK, EVF, ↓reduceIte, Nat.reduceEqDiff, Nat.reduceAdd, Nat.reduceSub, Nat.reduceMul, Nat.reduceLT, Nat.reduceLeDiff, reduceCtorEq, Int.reduceToNat, Int.reduceLT, Int.reduceLE, Int.reduceAdd, Int.reduceSub, Int.reduceMul, Int.reduceNeg, Int.reduceEq, Nat.reduceMod, forall_eq_or_imp, forall_eq, forall_const, cond_true, cond_false, decide_true, decide_false, true_imp_iff, implies_true, Int.cast_ofNat_Int, forall_eq']
  rintro i ⟨X, Y⟩ hi _
  have c1 := fun (b : Bool) => ev_dist1 M hmok ((i : Int), b) (by unfold In64; simp only; omega)
  simp only [hdef] at c1
  have s1 := dL_succ p.ns.length l p.cs up to false i
  have s2 := dL_succ p.ns.length l p.cs up to true i
  have l1 := dL_len p.ns.length l p.cs up to false i
  have l2 := dL_len p.ns.length l p.cs up to true i
  unfold lb25_0
  rcases Nat.eq_zero_or_pos i with h0 | h0
  · subst h0
    simp only [if_true]
    simp only [↓EVP0, EVQ0, EVQ1, EVQ2, EVQ3, EVQ4, EVA, EVK, EVF, ↓reduceIte, Nat.reduceEqDiff, Nat.reduceAdd, Nat.reduceSub, Nat.reduceMul, Nat.reduceLT, Nat.reduceLeDiff, reduceCtorEq, Int.reduceToNat, Int.reduceLT, Int.reduceLE, Int.reduceAdd, Int.reduceSub, Int.reduceMul, Int.reduceNeg, Int.reduceEq, Nat.reduceMod, forall_eq_or_imp, forall_eq, forall_const, cond_true, cond_false, decide_true, decide_false, true_imp_iff, implies_true, Int.cast_ofNat_Int, forall_eq']
    refine ⟨fun hg => ?_, fun hg => ?_⟩
    · have z1 : Ev Try.prog 56 [.agg [.sc (.int .i64 0), .sc (.bool false)], .rptr [.rmp (kvM M)]] (.sc (.int .i64 (dS p.ns.length l p.cs up to (0, false)))) := c1 false
      have z2 : Ev Try.prog 56 [.agg [.sc (.int .i64 0), .sc (.bool true)], .rptr [.rmp (kvM M)]] (.sc (.int .i64 (dS p.ns.length l p.cs up to (0, true)))) := c1 true
      have y1 : dL p.ns.length l p.cs up to false 1 = [dS p.ns.length l p.cs up to (0, false)] := s1
      have y2 : dL p.ns.length l p.cs up to true 1 = [dS p.ns.length l p.cs up to (0, true)] := s2
      refine ⟨by decide, callK_frz z1 ?_ ?_ ?_⟩
      · simp only [↓EVP0, EVQ0, EVQ1, EVQ2, EVQ3, EVQ4, EVA, EVK, EVF, ↓reduceIte, Nat.reduceEqDiff, Nat.reduceAdd, Nat.reduceSub, Nat.reduceMul, Nat.reduceLT, Nat.reduceLeDiff, reduceCtorEq, Int.reduceToNat, Int.reduceLT, Int.reduceLE, Int.reduceAdd, Int.reduceSub, Int.reduceMul, Int.reduceNeg, Int.reduceEq, Nat.reduceMod, forall_eq_or_imp, forall_eq, forall_const, cond_true, cond_false, decide_true, decide_false, true_imp_iff, implies_true, Int.cast_ofNat_Int, forall_eq']
        exact roTo2_map (by simp [mkH]) rfl
      · simp only [↓EVP0, EVQ0, EVQ1, EVQ2, EVQ3, EVQ4, EVA, EVK, EVF, ↓reduceIte, Nat.reduceEqDiff, Nat.reduceAdd, Nat.reduceSub, Nat.reduceMul, Nat.reduceLT, Nat.reduceLeDiff, reduceCtorEq, Int.reduceToNat, Int.reduceLT, Int.reduceLE, Int.reduceAdd, Int.reduceSub, Int.reduceMul, Int.reduceNeg, Int.reduceEq, Nat.reduceMod, forall_eq_or_imp, forall_eq, forall_const, cond_true, cond_false, decide_true, decide_false, true_imp_iff, implies_true, Int.cast_ofNat_Int, forall_eq']
      simp only [↓EVP0, EVQ0, EVQ1, EVQ2, EVQ3, EVQ4, EVA, EVK, EVF, ↓reduceIte, Nat.reduceEqDiff, Nat.reduceAdd, Nat.reduceSub, Nat.reduceMul, Nat.reduceLT, Nat.reduceLeDiff, reduceCtorEq, Int.reduceToNat, Int.reduceLT, Int.reduceLE, Int.reduceAdd, Int.reduceSub, Int.reduceMul, Int.reduceNeg, Int.reduceEq, Nat.reduceMod, forall_eq_or_imp, forall_eq, forall_const, cond_true, cond_false, decide_true, decide_false, true_imp_iff, implies_true, Int.cast_ofNat_Int, forall_eq']
      refine ⟨by unfold appRoom; omega, by decide, callK_frz z2 ?_ ?_ ?_⟩
      · simp only [↓EVP0, EVQ0, EVQ1, EVQ2, EVQ3, EVQ4, EVA, EVK, EVF, ↓reduceIte, Nat.reduceEqDiff, Nat.reduceAdd, Nat.reduceSub, Nat.reduceMul, Nat.reduceLT, Nat.reduceLeDiff, reduceCtorEq, Int.reduceToNat, Int.reduceLT, Int.reduceLE, Int.reduceAdd, Int.reduceSub, Int.reduceMul, Int.reduceNeg, Int.reduceEq, Nat.reduceMod, forall_eq_or_imp, forall_eq, forall_const, cond_true, cond_false, decide_true, decide_false, true_imp_iff, implies_true, Int.cast_ofNat_Int, forall_eq']
        exact roTo2_map (by simp [mkH]) rfl
      · simp only [↓EVP0, EVQ0, EVQ1, EVQ2, EVQ3, EVQ4, EVA, EVK, EVF, ↓reduceIte, Nat.reduceEqDiff, Nat.reduceAdd, Nat.reduceSub, Nat.reduceMul, Nat.reduceLT, Nat.reduceLeDiff, reduceCtorEq, Int.reduceToNat, Int.reduceLT, Int.reduceLE, Int.reduceAdd, Int.reduceSub, Int.reduceMul, Int.reduceNeg, Int.reduceEq, Nat.reduceMod, forall_eq_or_imp, forall_eq, forall_const, cond_true, cond_false, decide_true, decide_false, true_imp_iff, implies_true, Int.cast_ofNat_Int, forall_eq']
      simp only [↓EVP0, EVQ0, EVQ1, EVQ2, EVQ3, EVQ4, EVA, EVK, EVF, ↓reduceIte, Nat.reduceEqDiff, Nat.reduceAdd, Nat.reduceSub, Nat.reduceMul, Nat.reduceLT, Nat.reduceLeDiff, reduceCtorEq, Int.reduceToNat, Int.reduceLT, Int.reduceLE, Int.reduceAdd, Int.reduceSub, Int.reduceMul, Int.reduceNeg, Int.reduceEq, Nat.reduceMod, forall_eq_or_imp, forall_eq, forall_const, cond_true, cond_false, decide_true, decide_false, true_imp_iff, implies_true, Int.cast_ofNat_Int, forall_eq']
      exact ⟨by unfold appRoom; omega, by unfold In64; omega, by unfold inN at ht; omega, ([_], [_]), rfl, y1.symm, rfl, y2.symm⟩
    · have := of_decide_eq_false hg
      unfold inN at ht; omega
  · have hne : ¬ i = 0 := by omega
    have hne2 : ¬ i + 1 = 0 := by omega
    simp only [hne, hne2, if_false]
    simp only [↓EVP0, EVQ0, EVQ1, EVQ2, EVQ3, EVQ4, EVA, EVK, EVF, ↓reduceIte, Nat.reduceEqDiff, Nat.reduceAdd, Nat.reduceSub, Nat.reduceMul, Nat.reduceLT, Nat.reduceLeDiff, reduceCtorEq, Int.reduceToNat, Int.reduceLT, Int.reduceLE, Int.reduceAdd, Int.reduceSub, Int.reduceMul, Int.reduceNeg, Int.reduceEq, Nat.reduceMod, forall_eq_or_imp, forall_eq, forall_const, cond_true, cond_false, decide_true, decide_false, true_imp_iff, implies_true, Int.cast_ofNat_Int, forall_eq']
    refine ⟨fun hg => ?_, fun hg => ?_⟩
    · have hi2 : i < p.ns.length := by have := of_decide_eq_true hg; omega
      refine ⟨by decide, callK_frz (c1 false) ?_ ?_ ?_⟩
      · simp only [↓EVP0, EVQ0, EVQ1, EVQ2, EVQ3, EVQ4, EVA, EVK, EVF, ↓reduceIte, Nat.reduceEqDiff, Nat.reduceAdd, Nat.reduceSub, Nat.reduceMul, Nat.reduceLT, Nat.reduceLeDiff, reduceCtorEq, Int.reduceToNat, Int.reduceLT, Int.reduceLE, Int.reduceAdd, Int.reduceSub, Int.reduceMul, Int.reduceNeg, Int.reduceEq, Nat.reduceMod, forall_eq_or_imp, forall_eq, forall_const, cond_true, cond_false, decide_true, decide_false, true_imp_iff, implies_true, Int.cast_ofNat_Int, forall_eq']
        exact roTo2_map (by simp [mkH]) rfl
      · simp only [↓EVP0, EVQ0, EVQ1, EVQ2, EVQ3, EVQ4, EVA, EVK, EVF, ↓reduceIte, Nat.reduceEqDiff, Nat.reduceAdd, Nat.reduceSub, Nat.reduceMul, Nat.reduceLT, Nat.reduceLeDiff, reduceCtorEq, Int.reduceToNat, Int.reduceLT, Int.reduceLE, Int.reduceAdd, Int.reduceSub, Int.reduceMul, Int.reduceNeg, Int.reduceEq, Nat.reduceMod, forall_eq_or_imp, forall_eq, forall_const, cond_true, cond_false, decide_true, decide_false, true_imp_iff, implies_true, Int.cast_ofNat_Int, forall_eq']
      simp only [↓EVP0, EVQ0, EVQ1, EVQ2, EVQ3, EVQ4, EVA, EVK, EVF, ↓reduceIte, Nat.reduceEqDiff, Nat.reduceAdd, Nat.reduceSub, Nat.reduceMul, Nat.reduceLT, Nat.reduceLeDiff, reduceCtorEq, Int.reduceToNat, Int.reduceLT, Int.reduceLE, Int.reduceAdd, Int.reduceSub, Int.reduceMul, Int.reduceNeg, Int.reduceEq, Nat.reduceMod, forall_eq_or_imp, forall_eq, forall_const, cond_true, cond_false, decide_true, decide_false, true_imp_iff, implies_true, Int.cast_ofNat_Int, forall_eq']
      refine ⟨by omega, by unfold appRoom; omega, by decide, callK_frz (c1 true) ?_ ?_ ?_⟩
      · simp only [↓EVP0, EVQ0, EVQ1, EVQ2, EVQ3, EVQ4, EVA, EVK, EVF, ↓reduceIte, Nat.reduceEqDiff, Nat.reduceAdd, Nat.reduceSub, Nat.reduceMul, Nat.reduceLT, Nat.reduceLeDiff, reduceCtorEq, Int.reduceToNat, Int.reduceLT, Int.reduceLE, Int.reduceAdd, Int.reduceSub, Int.reduceMul, Int.reduceNeg, Int.reduceEq, Nat.reduceMod, forall_eq_or_imp, forall_eq, forall_const, cond_true, cond_false, decide_true, decide_false, true_imp_iff, implies_true, Int.cast_ofNat_Int, forall_eq']
        exact roTo2_map (by simp [mkH]) rfl
      · simp only [↓EVP0, EVQ0, EVQ1, EVQ2, EVQ3, EVQ4, EVA, EVK, EVF, ↓reduceIte, Nat.reduceEqDiff, Nat.reduceAdd, Nat.reduceSub, Nat.reduceMul, Nat.reduceLT, Nat.reduceLeDiff, reduceCtorEq, Int.reduceToNat, Int.reduceLT, Int.reduceLE, Int.reduceAdd, Int.reduceSub, Int.reduceMul, Int.reduceNeg, Int.reduceEq, Nat.reduceMod, forall_eq_or_imp, forall_eq, forall_const, cond_true, cond_false, decide_true, decide_false, true_imp_iff, implies_true, Int.cast_ofNat_Int, forall_eq']
      simp only [↓EVP0, EVQ0, EVQ1, EVQ2, EVQ3, EVQ4, EVA, EVK, EVF, ↓reduceIte, Nat.reduceEqDiff, Nat.reduceAdd, Nat.reduceSub, Nat.reduceMul, Nat.reduceLT, Nat.reduceLeDiff, reduceCtorEq, Int.reduceToNat, Int.reduceLT, Int.reduceLE, Int.reduceAdd, Int.reduceSub, Int.reduceMul, Int.reduceNeg, Int.reduceEq, Nat.reduceMod, forall_eq_or_imp, forall_eq, forall_const, cond_true, cond_false, decide_true, decide_false, true_imp_iff, implies_true, Int.cast_ofNat_Int, forall_eq']
      have e1 : i - 1 + 1 = i := by omega
      exact ⟨by omega, by unfold appRoom; omega, by unfold In64; omega, hi2, (X, Y), ⟨by rw [e1]; rfl, by rw [e1]; rfl⟩, rfl, ⟨by omega, by rw [List.take_of_length_le (by omega), s1]⟩, rfl, by omega, by rw [List.take_of_length_le (by omega), s2]⟩
    · have hii : i = p.ns.length := by have := of_decide_eq_false hg; omega
      subst hii
      exact ⟨⟨l1, by omega, fun j _ => rfl⟩, l2, by omega, fun j _ => rfl⟩
/-- The state behind a cable, if a shortest path begins with it. -/
def hitQ (l : List Int) (on : Bool) (D : St → Int) (s : St) (left : Int) (q : Int × Bool) : Option St :=
  bif q.2 && on then (bif (!aboveB l q.1 s.1 || !s.2) && (decide (0 ≤ left - 1) && decide (D (q.1, !aboveB l q.1 s.1) = left - 1)) then some (q.1, !aboveB l q.1 s.1) else none) else none
def hitS (l : List Int) (cs : List Cb) (up : List Bool) (D : St → Int) (s : St) (left : Int) (i : Nat) : Option St := hitQ l (up.getD i false) D s left (acrE (cs.getD i default) s.1)
def fstS (l : List Int) (cs : List Cb) (up : List Bool) (D : St → Int) (s : St) (left : Int) : Option (Nat × St) := (List.range cs.length).findSome? fun i => (hitS l cs up D s left i).map fun t => (i, t)
theorem findSome_at {α : Type} {f : Nat → Option α} {v : α} : ∀ {n i : Nat}, i < n → (∀ j, j < i → f j = none) → f i = some v → (List.range n).findSome? f = some v := by
  intro n
  induction n with
  | zero => intro i hi; omega
  | succ n ih =>
    intro i hi hj hv
    rw [List.range_succ, List.findSome?_append]
    by_cases e : i = n
    · subst e
      have h0 : (List.range i).findSome? f = none := by
        rw [List.findSome?_eq_none_iff]
        intro x hx; exact hj x (List.mem_range.1 hx)
      rw [h0]; simp [hv]
    · rw [ih (by omega) hj hv]; rfl
theorem findSome_none {α : Type} {f : Nat → Option α} {n : Nat} (hj : ∀ j, j < n → f j = none) : (List.range n).findSome? f = none := by
  rw [List.findSome?_eq_none_iff]
  intro x hx; exact hj x (List.mem_range.1 hx)
theorem ev_first (p : Pl) (hv : validE p = 0) (l : List Int) (up : List Bool) (hup : up.length = p.cs.length) (to : Int) (ht : inN p.ns.length to) (s : St) (hs : inN p.ns.length s.1) (left : Int) (hl0 : 0 < left ∧ left < 1000) :
    Ev Try.prog 55 [plV p, .agg [intsV l], boolsV up, .rmp (kvM (srcM p.ns.length l p.cs up to)), .agg [.sc (.int .i64 s.1), .sc (.bool s.2)], .sc (.int .i64 left)]
      (.tup [.sc (.int .i64 (((fstS l p.cs up (dS p.ns.length l p.cs up to) s left).map fun q => (q.1 : Int)).getD (-1))), .agg [.sc (.int .i64 (((fstS l p.cs up (dS p.ns.length l p.cs up to) s left).map (·.2)).getD s).1), .sc (.bool (((fstS l p.cs up (dS p.ns.length l p.cs up to) s left).map (·.2)).getD s).2)]]) := by
  have hmok := srcM_ok hv l up ht
  have hdef : ∀ s, dS p.ns.length l p.cs up to s = (lk s (srcM p.ns.length l p.cs up to)).getD (-1) := fun _ => rfl
  have hD := d_facts (l := l) (cs := p.cs) (up := up) (show p.ns.length ≤ 100 by have := (valid_of hv).n16; omega) (valid_of hv).cab ht
  have h1 := ev_across
  have h2 := ev_step l
  unfold plV boolsV intsV cbL at *
  generalize dS p.ns.length l p.cs up to = D at *
  generalize srcM p.ns.length l p.cs up to = M at *
  refine ev_fn Try.func55 comp55 (show 6 ≤ Try.f55.ntmps by decide) ?_; unfold cf55 rf55; simp only [↓EVP0, EVQ0, EVQ1, EVQ2, EVQ3, EVQ4, EVA, EVK, EVF, ↓reduceIte, Nat.reduceEqDiff, Nat.reduceAdd, Nat.reduceSub, Nat.reduceMul, Nat.reduceLT, Nat.reduceLeDiff, reduceCtorEq, Int.reduceToNat, Int.reduceLT, Int.reduceLE, Int.reduceAdd, Int.reduceSub, Int.reduceMul, Int.reduceNeg, Int.reduceEq, Nat.reduceMod, forall_eq_or_imp, forall_eq, forall_const, cond_true, cond_false, decide_true, decide_false, true_imp_iff, implies_true, Int.cast_ofNat_Int, forall_eq']
  intro _
  refine lwp_for (α := Unit) p.cs.length (fun i _ => ∀ j, j < i → hitS l p.cs up D s left j = none) (fun i _ => [(2, .rsl 1 up.length (boolsF up)), (3, .rmp (kvM M)), (5, .sc (.int .i64 left)), (7, .ptr 1 0 0 0 0), (10, .ptr 2 0 0 0 0), (13, .ptr 3 0 0 0 0), (23, .rsl 6 p.cs.length (cbsF p.cs)), (24, .sc (.int .i64 p.cs.length)), (25, .sc (.int .i64 i))])
    (fun _ _ => [(0, .box [.rsl 3 p.ns.length (ndsF p.ns), .rsl 6 p.cs.length (cbsF p.cs)]), (0, .box [.rsl 1 l.length (intsF l)]), (0, .box [.sc (.int .i64 s.1), .sc (.bool s.2)]), (0, .box [.sc (.int .i64 0), .sc (.bool false)])]) () (fun j hj => by omega) ?_ (fun _ _ => Nat.zero_le _) ?_
  · simp only [↓EVP0, EVQ0, EVQ1, EVQ2, EVQ3, EVQ4, EVA, EVK, EVF, ↓reduceIte, Nat.reduceEqDiff, Nat.reduceAdd, Nat.reduceSub, Nat.reduceMul, Nat.reduceLT, Nat.reduceLeDiff, reduceCtorEq, Int.reduceToNat, Int.reduceLT, Int.reduceLE, Int.reduceAdd, Int.reduceSub, Int.reduceMul, Int.reduceNeg, Int.reduceEq, Nat.reduceMod, forall_eq_or_imp, forall_eq, forall_const, cond_true, cond_false, decide_true, decide_false, true_imp_iff, implies_true, Int.cast_ofNat_Int, forall_eq']
  intro i _ hi hx
  unfold lb55_0
  simp only [↓EVP0, EVQ0, EVQ1, EVQ2, EVQ3, EVQ4, EVA, EVK, EVF, ↓reduceIte, Nat.reduceEqDiff, Nat.reduceAdd, Nat.reduceSub, Nat.reduceMul, Nat.reduceLT, Nat.reduceLeDiff, reduceCtorEq, Int.reduceToNat, Int.reduceLT, Int.reduceLE, Int.reduceAdd, Int.reduceSub, Int.reduceMul, Int.reduceNeg, Int.reduceEq, Nat.reduceMod, forall_eq_or_imp, forall_eq, forall_const, cond_true, cond_false, decide_true, decide_false, true_imp_iff, implies_true, Int.cast_ofNat_Int, forall_eq']
  refine ⟨fun hg => ?_, fun hg => ?_⟩
  · have hi2 : i < p.cs.length := by have := of_decide_eq_true hg; omega
    refine ⟨⟨by omega, by omega⟩, ?_⟩
    refine callK_ro (h1 (p.cs.getD i default) s.1) ?_ ?_
    · simp only [↓EVP0, EVQ0, EVQ1, EVQ2, EVQ3, EVQ4, EVA, EVK, EVF, ↓reduceIte, Nat.reduceEqDiff, Nat.reduceAdd, Nat.reduceSub, Nat.reduceMul, Nat.reduceLT, Nat.reduceLeDiff, reduceCtorEq, Int.reduceToNat, Int.reduceLT, Int.reduceLE, Int.reduceAdd, Int.reduceSub, Int.reduceMul, Int.reduceNeg, Int.reduceEq, Nat.reduceMod, forall_eq_or_imp, forall_eq, forall_const, cond_true, cond_false, decide_true, decide_false, true_imp_iff, implies_true, Int.cast_ofNat_Int, forall_eq']
    simp only [↓EVP0, EVQ0, EVQ1, EVQ2, EVQ3, EVQ4, EVA, EVK, EVF, ↓reduceIte, Nat.reduceEqDiff, Nat.reduceAdd, Nat.reduceSub, Nat.reduceMul, Nat.reduceLT, Nat.reduceLeDiff, reduceCtorEq, Int.reduceToNat, Int.reduceLT, Int.reduceLE, Int.reduceAdd, Int.reduceSub, Int.reduceMul, Int.reduceNeg, Int.reduceEq, Nat.reduceMod, forall_eq_or_imp, forall_eq, forall_const, cond_true, cond_false, decide_true, decide_false, true_imp_iff, implies_true, Int.cast_ofNat_Int, forall_eq']
    have hnext : hitS l p.cs up D s left i = none → ∀ j, j < i + 1 → hitS l p.cs up D s left j = none := by
      intro h j hj
      by_cases e : j = i
      · subst e; exact h
      · exact hx j (by omega)
    have hH : hitS l p.cs up D s left i = hitQ l (up.getD i false) D s left (acrE (p.cs.getD i default) s.1) := rfl
    have h16 := (valid_of hv).n16
    have hin := fun ho => acr_in hv (i := (i : Int)) (x := s.1) ⟨by omega, by omega⟩ ho
    simp only [Int.toNat_natCast] at hin
    generalize acrE (p.cs.getD i default) s.1 = q at *
    unfold hitQ at hH
    refine ⟨fun _ => ⟨by omega, by omega⟩, fun h => ?_, fun h => ?_⟩
    · have : (q.2 && up.getD i false) = false := by
        revert h; cases q.2 <;> cases up.getD i false <;> simp
      rw [this] at hH
      exact ⟨by unfold In64; omega, hi2, (), hnext hH⟩
    have hqu : q.2 = true ∧ up.getD i false = true := by
      revert h; cases q.2 <;> cases up.getD i false <;> simp
    have hy := hin hqu.1
    rw [hqu.1, hqu.2] at hH
    simp only [Bool.and_self, cond_true] at hH
    unfold inN at hy hs
    generalize q.1 = y at *
    refine callK_ro (h2 s.1 s.2 y) ?_ ?_
    · simp only [↓EVP0, EVQ0, EVQ1, EVQ2, EVQ3, EVQ4, EVA, EVK, EVF, ↓reduceIte, Nat.reduceEqDiff, Nat.reduceAdd, Nat.reduceSub, Nat.reduceMul, Nat.reduceLT, Nat.reduceLeDiff, reduceCtorEq, Int.reduceToNat, Int.reduceLT, Int.reduceLE, Int.reduceAdd, Int.reduceSub, Int.reduceMul, Int.reduceNeg, Int.reduceEq, Nat.reduceMod, forall_eq_or_imp, forall_eq, forall_const, cond_true, cond_false, decide_true, decide_false, true_imp_iff, implies_true, Int.cast_ofNat_Int, forall_eq']
    simp only [↓EVP0, EVQ0, EVQ1, EVQ2, EVQ3, EVQ4, EVA, EVK, EVF, ↓reduceIte, Nat.reduceEqDiff, Nat.reduceAdd, Nat.reduceSub, Nat.reduceMul, Nat.reduceLT, Nat.reduceLeDiff, reduceCtorEq, Int.reduceToNat, Int.reduceLT, Int.reduceLE, Int.reduceAdd, Int.reduceSub, Int.reduceMul, Int.reduceNeg, Int.reduceEq, Nat.reduceMod, forall_eq_or_imp, forall_eq, forall_const, cond_true, cond_false, decide_true, decide_false, true_imp_iff, implies_true, Int.cast_ofNat_Int, forall_eq']
    have e1 : mfind (kvM M) (Value.agg #[Value.int IntKind.i64 y, Value.bool !aboveB l y s.1]) = (lk (y, !aboveB l y s.1) M).map fun d => .sc (.int .i64 d) := mfind_kvM (y, !aboveB l y s.1) M
    have k1 : keysOk Try.prog 80 (kvM M) (Value.agg #[Value.int IntKind.i64 y, Value.bool !aboveB l y s.1]) := keys_kvM (s := (y, !aboveB l y s.1)) hmok (by unfold In64; simp only; omega)
    simp only [e1]
    rw [hdef (y, !aboveB l y s.1)] at hH
    have hlo := hD.low (y, !aboveB l y s.1)
    rw [hdef (y, !aboveB l y s.1)] at hlo
    generalize aboveB l y s.1 = u at *
    rcases lk_or (y, !u) M with hq | ⟨d, hq⟩ <;> rw [hq] at hH hlo ⊢ <;> simp only [Option.map_some, Option.map_none, Option.getD_some, Option.getD_none, Option.isSome_some, Option.isSome_none] at hH hlo ⊢
    · simp only [↓EVP0, EVQ0, EVQ1, EVQ2, EVQ3, EVQ4, EVA, EVK, EVF, ↓reduceIte, Nat.reduceEqDiff, Nat.reduceAdd, Nat.reduceSub, Nat.reduceMul, Nat.reduceLT, Nat.reduceLeDiff, reduceCtorEq, Int.reduceToNat, Int.reduceLT, Int.reduceLE, Int.reduceAdd, Int.reduceSub, Int.reduceMul, Int.reduceNeg, Int.reduceEq, Nat.reduceMod, forall_eq_or_imp, forall_eq, forall_const, cond_true, cond_false, decide_true, decide_false, true_imp_iff, implies_true, Int.cast_ofNat_Int, forall_eq']
      have : (decide (0 ≤ left - 1) && decide (-1 = left - 1)) = false := by simp; omega
      rw [this, Bool.and_false, cond_false] at hH
      refine ⟨k1, fun h => ?_, fun h => ?_, fun _ => ⟨by unfold In64; omega, hi2, (), hnext hH⟩⟩
      · revert h; cases (!u || !s.2) <;> simp
      · revert h; cases (!u || !s.2) <;> simp
    · simp only [↓EVP0, EVQ0, EVQ1, EVQ2, EVQ3, EVQ4, EVA, EVK, EVF, ↓reduceIte, Nat.reduceEqDiff, Nat.reduceAdd, Nat.reduceSub, Nat.reduceMul, Nat.reduceLT, Nat.reduceLeDiff, reduceCtorEq, Int.reduceToNat, Int.reduceLT, Int.reduceLE, Int.reduceAdd, Int.reduceSub, Int.reduceMul, Int.reduceNeg, Int.reduceEq, Nat.reduceMod, forall_eq_or_imp, forall_eq, forall_const, cond_true, cond_false, decide_true, decide_false, true_imp_iff, implies_true, Int.cast_ofNat_Int, forall_eq']
      have e3 : (bif bif !u || !s.2 then true else false then decide (d = left - 1) else false) = ((!u || !s.2) && (decide (0 ≤ left - 1) && decide (d = left - 1))) := by
        rw [decide_eq_true (show 0 ≤ left - 1 by omega)]
        cases (!u || !s.2) <;> cases decide (d = left - 1) <;> rfl
      rw [e3]
      refine ⟨k1, fun _ => by unfold In64; omega, fun h => ?_, fun h => ?_⟩
      · rw [h, cond_true] at hH
        have e : fstS l p.cs up D s left = some (i, (y, !u)) := findSome_at hi2 (fun j hj => by rw [hx j hj]; rfl) (by rw [hH]; rfl)
        rw [e]; exact ⟨rfl, rfl, rfl⟩
      · rw [h, cond_false] at hH
        exact ⟨by unfold In64; omega, hi2, (), hnext hH⟩
  · have hii : i = p.cs.length := by have := of_decide_eq_false hg; omega
    subst hii
    have e : fstS l p.cs up D s left = none := findSome_none fun j hj => by rw [hx j hj]; rfl
    rw [e]
    exact ⟨rfl, rfl, rfl⟩
/-- The chosen path from a state. -/
def chs (l : List Int) (cs : List Cb) (up : List Bool) (D : St → Int) : Nat → St → List Int
  | 0, _ => []
  | k + 1, s => match fstS l cs up D s ((k + 1 : Nat) : Int) with
    | some q => (q.1 : Int) :: chs l cs up D k q.2
    | none => []
def pathE (p : Pl) (l : List Int) (up : List Bool) (f to : Int) : List Int × Int :=
  if ordB p l = true ∧ up.length = p.cs.length then (if nodB p f = true ∧ nodB p to = true then (if dS p.ns.length l p.cs up to (f, false) = -1 then ([], 12) else (chs l p.cs up (dS p.ns.length l p.cs up to) (dS p.ns.length l p.cs up to (f, false)).toNat (f, false), 0)) else ([], 2)) else ([], 1)
theorem acr_iff {c : Cb} {x y : Int} (hne : c.a ≠ c.b) : ((x = c.a ∧ y = c.b) ∨ (x = c.b ∧ y = c.a)) ↔ (acrE c x).2 = true ∧ (acrE c x).1 = y := by
  unfold acrE
  by_cases h1 : x = c.a
  · rw [decide_eq_true h1]
    simp only [cond_true, true_and]
    constructor
    · rintro (⟨_, h⟩ | ⟨h, _⟩)
      · exact h.symm
      · exact absurd (h1.symm.trans h) hne
    · intro h; exact .inl ⟨h1, h.symm⟩
  · rw [decide_eq_false h1, cond_false]
    by_cases h2 : x = c.b
    · rw [decide_eq_true h2]
      simp only [cond_true, true_and]
      constructor
      · rintro (⟨h, _⟩ | ⟨_, h⟩)
        · exact absurd h h1
        · exact h.symm
      · intro h; exact .inr ⟨h2, h.symm⟩
    · rw [decide_eq_false h2]
      simp only [cond_false]
      constructor
      · rintro (⟨h, _⟩ | ⟨h, _⟩)
        · exact absurd h h1
        · exact absurd h h2
      · rintro ⟨h, _⟩; simp at h
theorem hit_iff {p : Pl} (hv : validE p = 0) {l : List Int} (hll : l.length = p.ns.length) {up : List Bool} {to : Int} {D : St → Int} (hD : DFacts p.ns.length l p.cs up to D) (hlv : ∀ s, 0 ≤ D s → 0 ≤ lvl l s.1) {s t : St} (hs : inN p.ns.length s.1) {left : Int} (hleft : D s = left) (h0 : 0 < left) {i : Nat} (hi : i < p.cs.length) :
    hitS l p.cs up D s left i = some t ↔ EdgJ l p.cs up i s t ∧ D t = left - 1 := by
  have hne := (valid_of hv).self _ (getD_mem default hi)
  have hcab := (valid_of hv).cab _ (getD_mem default hi)
  unfold hitS hitQ EdgJ
  rw [decide_eq_true (show 0 ≤ left - 1 by omega), Bool.true_and]
  generalize p.cs.getD i default = c at *
  have hsl := hlv s (by omega)
  constructor
  · intro h
    revert h
    cases ho : (acrE c s.1).2
    · intro h; simp at h
    · cases hu : up.getD i false
      · intro h; simp at h
      · simp only [Bool.and_self, cond_true]
        cases hok : (!aboveB l (acrE c s.1).1 s.1 || !s.2)
        · intro h; simp at h
        · by_cases hd : D ((acrE c s.1).1, !aboveB l (acrE c s.1).1 s.1) = left - 1
          · rw [decide_eq_true hd]
            intro h
            simp at h
            subst h
            refine ⟨⟨?_, (acr_iff hne).2 ⟨ho, rfl⟩, rfl, hok⟩, hd⟩
            have ht := hlv _ (show 0 ≤ D ((acrE c s.1).1, !aboveB l (acrE c s.1).1 s.1) by omega)
            have := (acr_iff (x := s.1) (y := (acrE c s.1).1) hne).2 ⟨ho, rfl⟩
            unfold skp
            rw [hu]
            simp only at ht
            rcases this with ⟨e1, e2⟩ | ⟨e1, e2⟩
            · rw [← e1, ← e2]; simp; omega
            · rw [← e1, ← e2]; simp; omega
          · rw [decide_eq_false hd]; intro h; simp at h
  · rintro ⟨⟨h1, h2, h3, h4⟩, h5⟩
    obtain ⟨h6, h7⟩ := (acr_iff hne).1 h2
    have hu : up.getD i false = true := by
      unfold skp at h1
      cases h : up.getD i false
      · rw [h] at h1; simp at h1
      · rfl
    rw [h6, h7, hu, h4]
    have ht : t = (t.1, !aboveB l t.1 s.1) := Prod.ext rfl h3
    rw [← ht, h5]; simp
end Go.Proofs.Ytibpkgopbecfoaa
namespace Go.Proofs.Ytibpkgopbecfoaa
set_option linter.unusedSimpArgs false
set_option linter.unusedVariables false
open Go.RowKit
set_option maxRecDepth 20000

theorem edg_lvl {l : List Int} {cs : List Cb} {up : List Bool} {s t : St} {i : Nat} (h : EdgJ l cs up i s t) : 0 ≤ lvl l s.1 ∧ 0 ≤ lvl l t.1 ∧ up.getD i false = true := by
  obtain ⟨h1, h2, _, _⟩ := h
  unfold skp at h1
  simp only [Bool.or_eq_false_iff, decide_eq_false_iff_not, Bool.not_eq_false'] at h1
  rcases h2 with ⟨e1, e2⟩ | ⟨e1, e2⟩ <;> rw [e1, e2] <;> exact ⟨by omega, by omega, h1.1.1⟩
theorem edg_in {n : Nat} {l : List Int} {cs : List Cb} {up : List Bool} (hC : ∀ c, c ∈ cs → inN n c.a ∧ inN n c.b) {s t : St} {i : Nat} (hi : i < cs.length) (h : EdgJ l cs up i s t) : inN n s.1 ∧ inN n t.1 := by
  obtain ⟨ha, hb⟩ := hC _ (getD_mem default hi)
  rcases h.2.1 with ⟨e1, e2⟩ | ⟨e1, e2⟩ <;> rw [e1, e2]
  · exact ⟨ha, hb⟩
  · exact ⟨hb, ha⟩
theorem DFacts.lvl {n : Nat} {l : List Int} {cs : List Cb} {up : List Bool} {to : Int} {D : St → Int} (h : DFacts n l cs up to D) (s : St) (h0 : 0 ≤ D s) : 0 ≤ Proofs.Ytibpkgopbecfoaa.lvl l s.1 := by
  by_cases h1 : D s = 0
  · obtain ⟨e, h2⟩ := (h.zero s).1 h1
    rw [e]; exact h2
  · obtain ⟨t, ⟨i, _, he⟩, _⟩ := h.next s (by omega)
    exact (edg_lvl he).1
theorem DFacts.rng {n : Nat} {l : List Int} {cs : List Cb} {up : List Bool} {to : Int} {D : St → Int} (h : DFacts n l cs up to D) (hC : ∀ c, c ∈ cs → inN n c.a ∧ inN n c.b) (ht : inN n to) (s : St) (h0 : 0 ≤ D s) : inN n s.1 := by
  by_cases h1 : D s = 0
  · rw [((h.zero s).1 h1).1]; exact ht
  · obtain ⟨t, ⟨i, hi, he⟩, _⟩ := h.next s (by omega)
    exact (edg_in hC hi he).1
theorem least_nat {q : Nat → Bool} : ∀ (n : Nat), (∃ i, i < n ∧ q i = true) → ∃ i, i < n ∧ q i = true ∧ ∀ j, j < i → q j = false
  | 0, ⟨i, hi, _⟩ => by omega
  | n + 1, ⟨i, hi, hq⟩ => by
    by_cases h : ∃ i, i < n ∧ q i = true
    · obtain ⟨k, h1, h2, h3⟩ := least_nat n h
      exact ⟨k, by omega, h2, h3⟩
    · refine ⟨i, hi, hq, fun j hj => ?_⟩
      cases hqj : q j
      · rfl
      · exact absurd ⟨j, by omega, hqj⟩ h
theorem fst_some {p : Pl} (hv : validE p = 0) {l : List Int} (hll : l.length = p.ns.length) {up : List Bool} {to : Int} (ht : inN p.ns.length to) {D : St → Int} (hD : DFacts p.ns.length l p.cs up to D) {s : St} {left : Int} (hleft : D s = left) (h0 : 0 < left) :
    ∃ i t, fstS l p.cs up D s left = some (i, t) ∧ i < p.cs.length ∧ EdgJ l p.cs up i s t ∧ D t = left - 1 ∧ ∀ j, j < i → hitS l p.cs up D s left j = none := by
  have hs := hD.rng (valid_of hv).cab ht s (by omega)
  obtain ⟨t, ⟨i, hi, he⟩, hd⟩ := hD.next s (by omega)
  have hh := (hit_iff hv hll hD (fun s h => hD.lvl s h) (t := t) hs hleft h0 hi).2 ⟨he, by omega⟩
  obtain ⟨k, k1, k2, k3⟩ := least_nat (q := fun i => (hitS l p.cs up D s left i).isSome) p.cs.length ⟨i, hi, by simp [hh]⟩
  obtain ⟨t', ht'⟩ := Option.isSome_iff_exists.1 k2
  have hno : ∀ j, j < k → hitS l p.cs up D s left j = none := fun j hj => by have := k3 j hj; simpa using this
  obtain ⟨g1, g2⟩ := (hit_iff hv hll hD (fun s h => hD.lvl s h) (t := t') hs hleft h0 k1).1 ht'
  exact ⟨k, t', findSome_at k1 (fun j hj => by rw [hno j hj]; rfl) (by rw [ht']; rfl), k1, g1, g2, hno⟩
theorem srcM_pos {p : Pl} (hv : validE p = 0) (l : List Int) (up : List Bool) {to : Int} (ht : inN p.ns.length to) {s : St} {d : Int} (h : lk s (srcM p.ns.length l p.cs up to) = some d) : 0 ≤ d := by
  have hV := valid_of hv
  have hn : p.ns.length ≤ 100 := by have := hV.n16; omega
  unfold srcM at h
  split at h
  · simp [lk] at h
  · refine ((iterP_ok hn hV.cab (2000 * p.ns.length + 1) _ (mp0_inv (l := l) (cs := p.cs) (up := up) ht) ?_).1.val s d h).1
    have := mu_le (n := p.ns.length) (m := mp0 to) (fun s d hd => by have := (mp0_inv (l := l) (cs := p.cs) (up := up) ht).val s d hd; rw [mp0_eq] at this; simp at this; omega)
    omega
theorem ev_path (p : Pl) (hp : PlOk p) (l : List Int) (up : List Bool) (f to : Int) :
    Ev Try.prog 22 [plV p, .agg [intsV l], boolsV up, .sc (.int .i64 f), .sc (.int .i64 to)] (.tup [intsV (pathE p l up f to).1, .sc (.int .i64 (pathE p l up f to).2)]) := by
  have h1 := ev_ordValid p hp l
  have h2 := ev_isNode p
  have h3 := fun hv hl hup ht => ev_search p hv l hl up hup to ht
  have h4 := fun hv hup ht => ev_first p hv l up hup to ht
  unfold plV boolsV intsV at *
  refine ev_fn Try.func22 comp22 (show 5 ≤ Try.f22.ntmps by decide) ?_; unfold cf22 rf22; simp only [↓EVP0, EVQ0, EVQ1, EVQ2, EVQ3, EVQ4, EVA, EVK, EVF, ↓reduceIte, Nat.reduceEqDiff, Nat.reduceAdd, Nat.reduceSub, Nat.reduceMul, Nat.reduceLT, Nat.reduceLeDiff, reduceCtorEq, Int.reduceToNat, Int.reduceLT, Int.reduceLE, Int.reduceAdd, Int.reduceSub, Int.reduceMul, Int.reduceNeg, Int.reduceEq, Nat.reduceMod, forall_eq_or_imp, forall_eq, forall_const, cond_true, cond_false, decide_true, decide_false, true_imp_iff, implies_true, Int.cast_ofNat_Int, forall_eq']
  refine callK_ro (h1) ?_ ?_
  · simp only [↓EVP0, EVQ0, EVQ1, EVQ2, EVQ3, EVQ4, EVA, EVK, EVF, ↓reduceIte, Nat.reduceEqDiff, Nat.reduceAdd, Nat.reduceSub, Nat.reduceMul, Nat.reduceLT, Nat.reduceLeDiff, reduceCtorEq, Int.reduceToNat, Int.reduceLT, Int.reduceLE, Int.reduceAdd, Int.reduceSub, Int.reduceMul, Int.reduceNeg, Int.reduceEq, Nat.reduceMod, forall_eq_or_imp, forall_eq, forall_const, cond_true, cond_false, decide_true, decide_false, true_imp_iff, implies_true, Int.cast_ofNat_Int, forall_eq']
  simp only [↓EVP0, EVQ0, EVQ1, EVQ2, EVQ3, EVQ4, EVA, EVK, EVF, ↓reduceIte, Nat.reduceEqDiff, Nat.reduceAdd, Nat.reduceSub, Nat.reduceMul, Nat.reduceLT, Nat.reduceLeDiff, reduceCtorEq, Int.reduceToNat, Int.reduceLT, Int.reduceLE, Int.reduceAdd, Int.reduceSub, Int.reduceMul, Int.reduceNeg, Int.reduceEq, Nat.reduceMod, forall_eq_or_imp, forall_eq, forall_const, cond_true, cond_false, decide_true, decide_false, true_imp_iff, implies_true, Int.cast_ofNat_Int, forall_eq']
  have ec : (bif !ordB p l then true else !decide ((up.length : Int) = p.cs.length)) = !decide (ordB p l = true ∧ up.length = p.cs.length) := by
    have e : decide ((up.length : Int) = p.cs.length) = decide (up.length = p.cs.length) := decide_eq_decide.2 Int.ofNat_inj
    rw [e]
    by_cases h1 : ordB p l = true <;> by_cases h2 : up.length = p.cs.length <;> simp [h1, h2]
  rw [ec]
  refine ⟨fun h => ?_, fun h => ?_⟩
  · have e : pathE p l up f to = ([], 1) := by
      unfold pathE; rw [if_neg (by intro h2; rw [decide_eq_true h2] at h; simp at h)]
    rw [e]; simp
  have hh : ordB p l = true ∧ up.length = p.cs.length := by simpa using h
  have hO := ord_of hh.1
  refine callK_ro (h2 f) ?_ ?_
  · simp only [↓EVP0, EVQ0, EVQ1, EVQ2, EVQ3, EVQ4, EVA, EVK, EVF, ↓reduceIte, Nat.reduceEqDiff, Nat.reduceAdd, Nat.reduceSub, Nat.reduceMul, Nat.reduceLT, Nat.reduceLeDiff, reduceCtorEq, Int.reduceToNat, Int.reduceLT, Int.reduceLE, Int.reduceAdd, Int.reduceSub, Int.reduceMul, Int.reduceNeg, Int.reduceEq, Nat.reduceMod, forall_eq_or_imp, forall_eq, forall_const, cond_true, cond_false, decide_true, decide_false, true_imp_iff, implies_true, Int.cast_ofNat_Int, forall_eq']
  simp only [↓EVP0, EVQ0, EVQ1, EVQ2, EVQ3, EVQ4, EVA, EVK, EVF, ↓reduceIte, Nat.reduceEqDiff, Nat.reduceAdd, Nat.reduceSub, Nat.reduceMul, Nat.reduceLT, Nat.reduceLeDiff, reduceCtorEq, Int.reduceToNat, Int.reduceLT, Int.reduceLE, Int.reduceAdd, Int.reduceSub, Int.reduceMul, Int.reduceNeg, Int.reduceEq, Nat.reduceMod, forall_eq_or_imp, forall_eq, forall_const, cond_true, cond_false, decide_true, decide_false, true_imp_iff, implies_true, Int.cast_ofNat_Int, forall_eq']
  (refine lops_ge_imp ?_; simp only [↓EVP0, EVQ0, EVQ1, EVQ2, EVQ3, EVQ4, EVA, EVK, EVF, ↓reduceIte, Nat.reduceEqDiff, Nat.reduceAdd, Nat.reduceSub, Nat.reduceMul, Nat.reduceLT, Nat.reduceLeDiff, reduceCtorEq, Int.reduceToNat, Int.reduceLT, Int.reduceLE, Int.reduceAdd, Int.reduceSub, Int.reduceMul, Int.reduceNeg, Int.reduceEq, Nat.reduceMod, forall_eq_or_imp, forall_eq, forall_const, cond_true, cond_false, decide_true, decide_false, true_imp_iff, implies_true, Int.cast_ofNat_Int, forall_eq'])
  refine gCallK_ro _ (fun _ => h2 to) (fun _ => ?_) ?_
  · simp only [↓EVP0, EVQ0, EVQ1, EVQ2, EVQ3, EVQ4, EVA, EVK, EVF, ↓reduceIte, Nat.reduceEqDiff, Nat.reduceAdd, Nat.reduceSub, Nat.reduceMul, Nat.reduceLT, Nat.reduceLeDiff, reduceCtorEq, Int.reduceToNat, Int.reduceLT, Int.reduceLE, Int.reduceAdd, Int.reduceSub, Int.reduceMul, Int.reduceNeg, Int.reduceEq, Nat.reduceMod, forall_eq_or_imp, forall_eq, forall_const, cond_true, cond_false, decide_true, decide_false, true_imp_iff, implies_true, Int.cast_ofNat_Int, forall_eq']
  simp only [↓EVP0, EVQ0, EVQ1, EVQ2, EVQ3, EVQ4, EVA, EVK, EVF, ↓reduceIte, Nat.reduceEqDiff, Nat.reduceAdd, Nat.reduceSub, Nat.reduceMul, Nat.reduceLT, Nat.reduceLeDiff, reduceCtorEq, Int.reduceToNat, Int.reduceLT, Int.reduceLE, Int.reduceAdd, Int.reduceSub, Int.reduceMul, Int.reduceNeg, Int.reduceEq, Nat.reduceMod, forall_eq_or_imp, forall_eq, forall_const, cond_true, cond_false, decide_true, decide_false, true_imp_iff, implies_true, Int.cast_ofNat_Int, forall_eq']
  have ec2 : (bif !nodB p f then true else !nodB p to) = !decide (nodB p f = true ∧ nodB p to = true) := by
    cases nodB p f <;> cases nodB p to <;> rfl
  rw [ec2]
  refine ⟨fun h => ?_, fun h => ?_⟩
  · have e : pathE p l up f to = ([], 2) := by
      unfold pathE; rw [if_pos hh, if_neg (by intro h2; rw [decide_eq_true h2] at h; simp at h)]
    rw [e]; simp
  have hnd : nodB p f = true ∧ nodB p to = true := by simpa using h
  have hf := nodB_in hnd.1
  have ht := nodB_in hnd.2
  have hmok := srcM_ok hO.v l up ht
  have hD := d_facts (l := l) (cs := p.cs) (up := up) (show p.ns.length ≤ 100 by have := (valid_of hO.v).n16; omega) (valid_of hO.v).cab ht
  have hdef : dS p.ns.length l p.cs up to (f, false) = (lk (f, false) (srcM p.ns.length l p.cs up to)).getD (-1) := rfl
  have hf' := hf
  unfold inN at hf'
  have h16 := (valid_of hO.v).n16
  have e : pathE p l up f to = if dS p.ns.length l p.cs up to (f, false) = -1 then ([], 12) else (chs l p.cs up (dS p.ns.length l p.cs up to) (dS p.ns.length l p.cs up to (f, false)).toNat (f, false), 0) := by
    unfold pathE; rw [if_pos hh, if_pos hnd]
  rw [e]
  refine callK_ro (h3 hO.v hO.len hh.2 ht) ?_ ?_
  · simp only [↓EVP0, EVQ0, EVQ1, EVQ2, EVQ3, EVQ4, EVA, EVK, EVF, ↓reduceIte, Nat.reduceEqDiff, Nat.reduceAdd, Nat.reduceSub, Nat.reduceMul, Nat.reduceLT, Nat.reduceLeDiff, reduceCtorEq, Int.reduceToNat, Int.reduceLT, Int.reduceLE, Int.reduceAdd, Int.reduceSub, Int.reduceMul, Int.reduceNeg, Int.reduceEq, Nat.reduceMod, forall_eq_or_imp, forall_eq, forall_const, cond_true, cond_false, decide_true, decide_false, true_imp_iff, implies_true, Int.cast_ofNat_Int, forall_eq']
  simp only [↓EVP0, EVQ0, EVQ1, EVQ2, EVQ3, EVQ4, EVA, EVK, EVF, ↓reduceIte, Nat.reduceEqDiff, Nat.reduceAdd, Nat.reduceSub, Nat.reduceMul, Nat.reduceLT, Nat.reduceLeDiff, reduceCtorEq, Int.reduceToNat, Int.reduceLT, Int.reduceLE, Int.reduceAdd, Int.reduceSub, Int.reduceMul, Int.reduceNeg, Int.reduceEq, Nat.reduceMod, forall_eq_or_imp, forall_eq, forall_const, cond_true, cond_false, decide_true, decide_false, true_imp_iff, implies_true, Int.cast_ofNat_Int, forall_eq']
  have e1 : mfind (kvM (srcM p.ns.length l p.cs up to)) (Value.agg #[Value.int IntKind.i64 f, Value.bool false]) = (lk (f, false) (srcM p.ns.length l p.cs up to)).map fun d => .sc (.int .i64 d) := mfind_kvM (f, false) _
  have k1 : keysOk Try.prog 80 (kvM (srcM p.ns.length l p.cs up to)) (Value.agg #[Value.int IntKind.i64 f, Value.bool false]) := keys_kvM (s := (f, false)) hmok (by unfold In64; simp only; omega)
  simp only [e1]
  rcases lk_or (f, false) (srcM p.ns.length l p.cs up to) with hq | ⟨d, hq⟩ <;> simp only [hq, Option.map_some, Option.map_none, Option.getD_some, Option.getD_none, Option.isSome_some, Option.isSome_none] at hdef ⊢
  · simp only [↓EVP0, EVQ0, EVQ1, EVQ2, EVQ3, EVQ4, EVA, EVK, EVF, ↓reduceIte, Nat.reduceEqDiff, Nat.reduceAdd, Nat.reduceSub, Nat.reduceMul, Nat.reduceLT, Nat.reduceLeDiff, reduceCtorEq, Int.reduceToNat, Int.reduceLT, Int.reduceLE, Int.reduceAdd, Int.reduceSub, Int.reduceMul, Int.reduceNeg, Int.reduceEq, Nat.reduceMod, forall_eq_or_imp, forall_eq, forall_const, cond_true, cond_false, decide_true, decide_false, true_imp_iff, implies_true, Int.cast_ofNat_Int, forall_eq']
    rw [if_pos hdef]
    exact ⟨k1, rfl, rfl⟩
  have hd0 := hD.low (f, false)
  have hdp : 0 ≤ d := srcM_pos hO.v l up ht hq
  simp only [↓EVP0, EVQ0, EVQ1, EVQ2, EVQ3, EVQ4, EVA, EVK, EVF, ↓reduceIte, Nat.reduceEqDiff, Nat.reduceAdd, Nat.reduceSub, Nat.reduceMul, Nat.reduceLT, Nat.reduceLeDiff, reduceCtorEq, Int.reduceToNat, Int.reduceLT, Int.reduceLE, Int.reduceAdd, Int.reduceSub, Int.reduceMul, Int.reduceNeg, Int.reduceEq, Nat.reduceMod, forall_eq_or_imp, forall_eq, forall_const, cond_true, cond_false, decide_true, decide_false, true_imp_iff, implies_true, Int.cast_ofNat_Int, forall_eq']
  rw [if_neg (by omega)]
  refine ⟨k1, ?_⟩
  rw [hdef] at hd0 ⊢
  have h4' := h4 hO.v hh.2 ht
  have hfst := fun s left a b => fst_some hO.v hO.len ht hD (s := s) (left := left) a b
  generalize dS p.ns.length l p.cs up to = D at *
  generalize srcM p.ns.length l p.cs up to = M at *
  refine lwp_loop (α := Nat × St × List Int) (fun x => D x.2.1 = x.1 ∧ inN p.ns.length x.2.1.1 ∧ x.1 ≤ 100 ∧ x.2.2.length ≤ 100 ∧ x.1 + x.2.2.length ≤ 100 ∧ x.2.2 ++ chs l p.cs up D x.1 x.2.1 = chs l p.cs up D d.toNat (f, false))
    (fun x => [(2, .rsl 1 up.length (boolsF up)), (5, .ptr 0 0 0 0 0), (6, .ptr 1 0 0 0 0), (12, .rmp (kvM M)), (13, .ptr 2 0 0 0 0), (14, .sc (.int .i64 x.1)), (16, .sl 3 x.2.2.length 1 0 x.2.2.length)])
    (fun x => [(0, .box [.rsl 3 p.ns.length (ndsF p.ns), .rsl 6 p.cs.length (cbsF p.cs)]), (0, .box [.rsl 1 l.length (intsF l)]), (0, .box [.sc (.int .i64 x.2.1.1), .sc (.bool x.2.1.2)]), (x.2.2.length, .ints x.2.2)])
    (fun x => x.1) (d.toNat, (f, false), []) ⟨by simp only; omega, hf, by simp only; omega, by simp, by simp; omega, rfl⟩ ?_ (fun _ => Nat.zero_le _) ?_
  · simp only [↓EVP0, EVQ0, EVQ1, EVQ2, EVQ3, EVQ4, EVA, EVK, EVF, ↓reduceIte, Nat.reduceEqDiff, Nat.reduceAdd, Nat.reduceSub, Nat.reduceMul, Nat.reduceLT, Nat.reduceLeDiff, reduceCtorEq, Int.reduceToNat, Int.reduceLT, Int.reduceLE, Int.reduceAdd, Int.reduceSub, Int.reduceMul, Int.reduceNeg, Int.reduceEq, Nat.reduceMod, forall_eq_or_imp, forall_eq, forall_const, cond_true, cond_false, decide_true, decide_false, true_imp_iff, implies_true, Int.cast_ofNat_Int, forall_eq']
    congr 3; omega
  rintro ⟨k, s, acc⟩ ⟨i1, i2, i3, i4, i5, i6⟩
  simp only at i1 i2 i3 i4 i5 i6
  unfold lb22_0
  simp only [↓EVP0, EVQ0, EVQ1, EVQ2, EVQ3, EVQ4, EVA, EVK, EVF, ↓reduceIte, Nat.reduceEqDiff, Nat.reduceAdd, Nat.reduceSub, Nat.reduceMul, Nat.reduceLT, Nat.reduceLeDiff, reduceCtorEq, Int.reduceToNat, Int.reduceLT, Int.reduceLE, Int.reduceAdd, Int.reduceSub, Int.reduceMul, Int.reduceNeg, Int.reduceEq, Nat.reduceMod, forall_eq_or_imp, forall_eq, forall_const, cond_true, cond_false, decide_true, decide_false, true_imp_iff, implies_true, Int.cast_ofNat_Int, forall_eq']
  refine ⟨fun hg => ?_, fun hg => ?_⟩
  · have hk := of_decide_eq_true hg
    obtain ⟨i, t, g1, g2, g3, g4, _⟩ := hfst s k i1 (by omega)
    have c1 := h4' s i2 k ⟨by omega, by omega⟩
    rw [g1] at c1
    simp only [Option.map_some, Option.getD_some] at c1
    refine callK_ro (c1) ?_ ?_
    · simp only [↓EVP0, EVQ0, EVQ1, EVQ2, EVQ3, EVQ4, EVA, EVK, EVF, ↓reduceIte, Nat.reduceEqDiff, Nat.reduceAdd, Nat.reduceSub, Nat.reduceMul, Nat.reduceLT, Nat.reduceLeDiff, reduceCtorEq, Int.reduceToNat, Int.reduceLT, Int.reduceLE, Int.reduceAdd, Int.reduceSub, Int.reduceMul, Int.reduceNeg, Int.reduceEq, Nat.reduceMod, forall_eq_or_imp, forall_eq, forall_const, cond_true, cond_false, decide_true, decide_false, true_imp_iff, implies_true, Int.cast_ofNat_Int, forall_eq']
    simp only [↓EVP0, EVQ0, EVQ1, EVQ2, EVQ3, EVQ4, EVA, EVK, EVF, ↓reduceIte, Nat.reduceEqDiff, Nat.reduceAdd, Nat.reduceSub, Nat.reduceMul, Nat.reduceLT, Nat.reduceLeDiff, reduceCtorEq, Int.reduceToNat, Int.reduceLT, Int.reduceLE, Int.reduceAdd, Int.reduceSub, Int.reduceMul, Int.reduceNeg, Int.reduceEq, Nat.reduceMod, forall_eq_or_imp, forall_eq, forall_const, cond_true, cond_false, decide_true, decide_false, true_imp_iff, implies_true, Int.cast_ofNat_Int, forall_eq']
    have hti := (edg_in (valid_of hO.v).cab g2 g3).2
    obtain ⟨k', rfl⟩ : ∃ k', k = k' + 1 := ⟨k - 1, by omega⟩
    have hch : chs l p.cs up D (k' + 1) s = (i : Int) :: chs l p.cs up D k' t := by simp only [chs]; rw [g1]
    rw [hch] at i6
    have hal : (acc ++ [(i : Int)]).length = acc.length + 1 := by simp
    refine ⟨Nat.le_refl _, by unfold appRoom; omega, by unfold In64; omega, (k', t, acc ++ [(i : Int)]), ⟨by simp only; omega, hti, by simp only; omega, by simp only; omega, by simp only; omega, by simp only [List.append_assoc]; exact i6⟩, ⟨⟨by simp only; omega, by simp only; rw [hal]⟩, rfl, by simp only; omega, by simp only; rw [List.take_of_length_le (Nat.le_refl _)]⟩, by simp only; omega⟩
  · have hk := of_decide_eq_false hg
    obtain rfl : k = 0 := by omega
    have : acc = chs l p.cs up D d.toNat (f, false) := by rw [← i6]; simp [chs]
    rw [← this]
    exact ⟨rfl, Nat.le_refl _, fun j _ => rfl⟩
end Go.Proofs.Ytibpkgopbecfoaa
namespace Go.Proofs.Ytibpkgopbecfoaa
set_option linter.unusedSimpArgs false
set_option linter.unusedVariables false
open Go.RowKit
set_option maxRecDepth 20000

def trn (L : Int) (d : Int) : Int := if 0 ≤ d ∧ d ≤ L then d else -1
/-- One trial of the reference. -/
def tryF (l : List Int) (L : Int) (F : List Int) (a b : Int) : List Int := bif (decide (stpE l a b = 2) && decide (lvl F b = L - 1)) && decide (lvl F a < 0) then F.set a.toNat L else F
def tryR (l : List Int) (L : Int) (R F : List Int) (a b : Int) : List Int := bif decide (lvl R a < 0) && ((decide (stpE l a b = 2) && decide (lvl F b = L - 1)) || (decide (stpE l a b = 1) && decide (lvl R b = L - 1))) then R.set a.toNat L else R
theorem stp2 {l : List Int} {a b : Int} : stpE l a b = 2 ↔ aboveB l b a = false ∧ aboveB l a b = true := by
  unfold stpE
  cases aboveB l b a <;> cases aboveB l a b <;> simp
theorem stp1 {l : List Int} {a b : Int} : stpE l a b = 1 ↔ aboveB l b a = true := by
  unfold stpE
  cases aboveB l b a <;> cases aboveB l a b <;> simp
theorem above_has {l : List Int} {a b : Int} (h : aboveB l a b = true) : 0 ≤ lvl l a ∧ 0 ≤ lvl l b := by
  unfold aboveB hasB at h
  simp only [Bool.and_eq_true, decide_eq_true_eq] at h
  exact ⟨h.1.2.2, h.2.1.2.2⟩
/-- A pair of nodes that a cable that is up joins. -/
def Pr (cs : List Cb) (up : List Bool) (a b : Int) : Prop := ∃ i, i < cs.length ∧ up.getD i false = true ∧ ((a = (cs.getD i default).a ∧ b = (cs.getD i default).b) ∨ (a = (cs.getD i default).b ∧ b = (cs.getD i default).a))
structure RefI (n : Nat) (l : List Int) (cs : List Cb) (up : List Bool) (D : St → Int) (L : Int) (done : Int → Int → Prop) (R F : List Int) : Prop where
  rl : R.length = n
  fl : F.length = n
  f1 : ∀ x, inN n x → lvl F x = trn (L - 1) (D (x, true)) ∨ (lvl F x = L ∧ D (x, true) = L)
  f2 : ∀ x b, inN n x → done x b → stpE l x b = 2 → D (b, true) = L - 1 → D (x, true) = L → lvl F x = L
  r1 : ∀ x, inN n x → lvl R x = trn (L - 1) (D (x, false)) ∨ (lvl R x = L ∧ D (x, false) = L)
  r2 : ∀ x b, inN n x → done x b → ((stpE l x b = 2 ∧ D (b, true) = L - 1) ∨ (stpE l x b = 1 ∧ D (b, false) = L - 1)) → D (x, false) = L → lvl R x = L
section
variable {n : Nat} {l : List Int} {cs : List Cb} {up : List Bool} {to : Int} {D : St → Int}
theorem pr_edge (hD : DFacts n l cs up to D) {a b : Int} (hp : Pr cs up a b) {f : Bool} (hlv : 0 ≤ lvl l a ∧ 0 ≤ lvl l b) (hok : (!aboveB l b a || !f) = true) (h0 : 0 ≤ D (b, !aboveB l b a)) : 0 ≤ D (a, f) ∧ D (a, f) ≤ D (b, !aboveB l b a) + 1 := by
  obtain ⟨i, hi, hu, hab⟩ := hp
  refine hD.edge (a, f) (b, !aboveB l b a) ⟨i, hi, ?_, hab, rfl, hok⟩ h0
  unfold skp
  rw [hu]
  rcases hab with ⟨e1, e2⟩ | ⟨e1, e2⟩ <;> rw [← e1, ← e2] <;> simp <;> omega
theorem trn_eq {L d : Int} (hL : 0 ≤ L) (h : trn L d = L) : d = L := by
  unfold trn at h; split at h <;> omega
theorem trn_self {L : Int} (hL : 0 ≤ L) : trn L L = L := by unfold trn; rw [if_pos ⟨hL, Int.le_refl _⟩]
theorem RefI.step (hD : DFacts n l cs up to D) {L : Int} (hL : 1 ≤ L) {done : Int → Int → Prop} {R F : List Int} (h : RefI n l cs up D L done R F) {a b : Int} (ha : inN n a) (hb : inN n b) (hab : a ≠ b) (hp : Pr cs up a b) :
    RefI n l cs up D L (fun x y => done x y ∨ (x = a ∧ y = b)) (tryR l L R (tryF l L F a b) a b) (tryF l L F a b) := by
  have hlowF := hD.low (a, true)
  have hlowR := hD.low (a, false)
  -- what the tests say
  have tb : lvl F b = L - 1 ↔ D (b, true) = L - 1 := by
    rcases h.f1 b hb with e | ⟨e1, e2⟩
    · rw [e]
      constructor
      · exact trn_eq (by omega)
      · intro hh; rw [hh]; exact trn_self (by omega)
    · constructor <;> intro <;> omega
  have tr : lvl R b = L - 1 ↔ D (b, false) = L - 1 := by
    rcases h.r1 b hb with e | ⟨e1, e2⟩
    · rw [e]
      constructor
      · exact trn_eq (by omega)
      · intro hh; rw [hh]; exact trn_self (by omega)
    · constructor <;> intro <;> omega
  have hF : tryF l L F a b = (if (stpE l a b = 2 ∧ D (b, true) = L - 1) ∧ lvl F a < 0 then F.set a.toNat L else F) := by
    unfold tryF
    by_cases c1 : stpE l a b = 2 <;> by_cases c2 : lvl F b = L - 1 <;> by_cases c3 : lvl F a < 0 <;> simp [c1, c2, c3, ← tb]
  have hFlen : (tryF l L F a b).length = n := by rw [hF]; split <;> simp [h.fl]
  have hFx : ∀ x, inN n x → lvl (tryF l L F a b) x = if x = a ∧ ((stpE l a b = 2 ∧ D (b, true) = L - 1) ∧ lvl F a < 0) then L else lvl F x := by
    intro x hx
    rw [hF]
    by_cases c : (stpE l a b = 2 ∧ D (b, true) = L - 1) ∧ lvl F a < 0
    · rw [if_pos c, lvl_set h.fl hx ha]
      by_cases e : x = a
      · rw [if_pos e, if_pos ⟨e, c⟩]
      · rw [if_neg e, if_neg (fun h => e h.1)]
    · rw [if_neg c, if_neg (fun h => c h.2)]
  have hFa : (stpE l a b = 2 ∧ D (b, true) = L - 1) → lvl F a < 0 → D (a, true) = L := by
    rintro ⟨c1, c2⟩ c3
    obtain ⟨s1, s2⟩ := stp2.1 c1
    have := pr_edge hD hp (f := true) (above_has s2) (by rw [s1]; rfl) (by rw [s1]; show 0 ≤ D (b, true); omega)
    rw [s1] at this
    have h3 : D (a, true) ≤ D (b, true) + 1 := this.2
    rcases h.f1 a ha with e | ⟨e1, e2⟩
    · rw [e] at c3
      unfold trn at c3
      split at c3 <;> omega
    · omega
  have tb' : lvl (tryF l L F a b) b = L - 1 ↔ D (b, true) = L - 1 := by
    rw [hFx b hb, if_neg (fun h => hab h.1.symm)]; exact tb
  have hR : tryR l L R (tryF l L F a b) a b = (if lvl R a < 0 ∧ ((stpE l a b = 2 ∧ D (b, true) = L - 1) ∨ (stpE l a b = 1 ∧ D (b, false) = L - 1)) then R.set a.toNat L else R) := by
    unfold tryR
    by_cases c1 : stpE l a b = 2 <;> by_cases c2 : lvl (tryF l L F a b) b = L - 1 <;> by_cases c3 : lvl R a < 0 <;> by_cases c4 : stpE l a b = 1 <;> by_cases c5 : lvl R b = L - 1 <;> simp [c1, c2, c3, c4, c5, ← tb', ← tr] <;> omega
  have hRlen : (tryR l L R (tryF l L F a b) a b).length = n := by rw [hR]; split <;> simp [h.rl]
  have hRx : ∀ x, inN n x → lvl (tryR l L R (tryF l L F a b) a b) x = if x = a ∧ (lvl R a < 0 ∧ ((stpE l a b = 2 ∧ D (b, true) = L - 1) ∨ (stpE l a b = 1 ∧ D (b, false) = L - 1))) then L else lvl R x := by
    intro x hx
    rw [hR]
    by_cases c : lvl R a < 0 ∧ ((stpE l a b = 2 ∧ D (b, true) = L - 1) ∨ (stpE l a b = 1 ∧ D (b, false) = L - 1))
    · rw [if_pos c, lvl_set h.rl hx ha]
      by_cases e : x = a
      · rw [if_pos e, if_pos ⟨e, c⟩]
      · rw [if_neg e, if_neg (fun h => e h.1)]
    · rw [if_neg c, if_neg (fun h => c h.2)]
  have hRa : ((stpE l a b = 2 ∧ D (b, true) = L - 1) ∨ (stpE l a b = 1 ∧ D (b, false) = L - 1)) → lvl R a < 0 → D (a, false) = L := by
    intro c1 c3
    have h3 : 0 ≤ D (a, false) ∧ D (a, false) ≤ L := by
      rcases c1 with ⟨c1, c2⟩ | ⟨c1, c2⟩
      · obtain ⟨s1, s2⟩ := stp2.1 c1
        have := pr_edge hD hp (f := false) (above_has s2) (by rw [s1]; rfl) (by rw [s1]; show 0 ≤ D (b, true); omega)
        rw [s1] at this
        have h3 : D (a, false) ≤ D (b, true) + 1 := this.2
        exact ⟨this.1, by omega⟩
      · have s1 := stp1.1 c1
        have := pr_edge hD hp (f := false) (above_has s1).symm (by rw [s1]; rfl) (by rw [s1]; show 0 ≤ D (b, false); omega)
        rw [s1] at this
        have h3 : D (a, false) ≤ D (b, false) + 1 := this.2
        exact ⟨this.1, by omega⟩
    rcases h.r1 a ha with e | ⟨e1, e2⟩
    · rw [e] at c3
      unfold trn at c3
      split at c3 <;> omega
    · omega
  refine ⟨hRlen, hFlen, fun x hx => ?_, fun x y hx hd c1 c2 c3 => ?_, fun x hx => ?_, fun x y hx hd c1 c3 => ?_⟩
  · rw [hFx x hx]
    split
    · rename_i c
      exact .inr ⟨rfl, by rw [c.1]; exact hFa c.2.1 c.2.2⟩
    · exact h.f1 x hx
  · rw [hFx x hx]
    split
    · rfl
    · rename_i c
      rcases hd with hd | ⟨rfl, rfl⟩
      · exact h.f2 x y hx hd c1 c2 c3
      · rcases h.f1 x hx with e | ⟨e1, e2⟩
        · exfalso
          apply c
          refine ⟨rfl, ⟨c1, c2⟩, ?_⟩
          rw [e, c3]; unfold trn; rw [if_neg (by omega)]; omega
        · exact e1
  · rw [hRx x hx]
    split
    · rename_i c
      exact .inr ⟨rfl, by rw [c.1]; exact hRa c.2.2 c.2.1⟩
    · exact h.r1 x hx
  · rw [hRx x hx]
    split
    · rfl
    · rename_i c
      rcases hd with hd | ⟨rfl, rfl⟩
      · exact h.r2 x y hx hd c1 c3
      · rcases h.r1 x hx with e | ⟨e1, e2⟩
        · exfalso
          apply c
          refine ⟨rfl, ?_, c1⟩
          rw [e, c3]; unfold trn; rw [if_neg (by omega)]; omega
        · exact e1
/-- What is known after all lengths up to L. -/
def RefL (n : Nat) (D : St → Int) (L : Int) (R F : List Int) : Prop := R.length = n ∧ F.length = n ∧ ∀ x, inN n x → lvl R x = trn L (D (x, false)) ∧ lvl F x = trn L (D (x, true))
theorem RefL.start {L : Int} {R F : List Int} (h : RefL n D (L - 1) R F) : RefI n l cs up D L (fun _ _ => False) R F :=
  ⟨h.1, h.2.1, fun x hx => .inl (h.2.2 x hx).2, fun _ _ _ hf => hf.elim, fun x hx => .inl (h.2.2 x hx).1, fun _ _ _ hf => hf.elim⟩
theorem edg_pr {s t : St} (h : Edg l cs up s t) : Pr cs up s.1 t.1 := by
  obtain ⟨i, hi, he⟩ := h
  exact ⟨i, hi, (edg_lvl he).2.2, he.2.1⟩
theorem trn_step {L d : Int} (hL : 1 ≤ L) (hne : d ≠ L) : trn (L - 1) d = trn L d := by
  unfold trn
  by_cases h : 0 ≤ d ∧ d ≤ L - 1
  · rw [if_pos h, if_pos ⟨h.1, by omega⟩]
  · rw [if_neg h, if_neg (by omega)]
theorem edg_stp (hll : l.length = n) (hC : ∀ c, c ∈ cs → inN n c.a ∧ inN n c.b) (hne : ∀ c, c ∈ cs → c.a ≠ c.b) {s t : St} (h : Edg l cs up s t) : (t.2 = true ∧ stpE l s.1 t.1 = 2) ∨ (t.2 = false ∧ s.2 = false ∧ stpE l s.1 t.1 = 1) := by
  obtain ⟨i, hi, he⟩ := h
  obtain ⟨v1, v2, _⟩ := edg_lvl he
  obtain ⟨n1, n2⟩ := edg_in hC hi he
  obtain ⟨e1, e2, e3, e4⟩ := he
  have hst : s.1 ≠ t.1 := by
    have := hne _ (getD_mem default hi)
    rcases e2 with ⟨a, b⟩ | ⟨a, b⟩ <;> rw [a, b]
    · exact this
    · exact this.symm
  cases hu : aboveB l t.1 s.1
  · left
    refine ⟨by rw [e3, hu]; rfl, stp2.2 ⟨hu, ?_⟩⟩
    rw [above_iff hll n1 n2]
    have hh : ¬ aboveB l t.1 s.1 = true := by rw [hu]; simp
    rw [above_iff hll n2 n1] at hh
    omega
  · right
    refine ⟨by rw [e3, hu]; rfl, ?_, stp1.2 hu⟩
    rw [hu] at e4; simpa using e4
theorem RefI.done (hll : l.length = n) (hC : ∀ c, c ∈ cs → inN n c.a ∧ inN n c.b) (hne : ∀ c, c ∈ cs → c.a ≠ c.b) (hD : DFacts n l cs up to D) {L : Int} (hL : 1 ≤ L) {done : Int → Int → Prop} {R F : List Int} (h : RefI n l cs up D L done R F) (hall : ∀ x y, Pr cs up x y → done x y) : RefL n D L R F := by
  refine ⟨h.rl, h.fl, fun x hx => ⟨?_, ?_⟩⟩
  · by_cases e : D (x, false) = L
    · obtain ⟨t, he, hd⟩ := hD.next (x, false) (by omega)
      have := h.r2 x t.1 hx (hall _ _ (edg_pr he)) (by
        rcases edg_stp hll hC hne he with ⟨a, b⟩ | ⟨a, _, b⟩
        · exact .inl ⟨b, by rw [show ((t.1, true) : St) = t from Prod.ext rfl a.symm]; omega⟩
        · exact .inr ⟨b, by rw [show ((t.1, false) : St) = t from Prod.ext rfl a.symm]; omega⟩) e
      rw [this, e, trn_self (by omega)]
    · rcases h.r1 x hx with e1 | ⟨_, e2⟩
      · rw [e1, trn_step hL e]
      · exact absurd e2 e
  · by_cases e : D (x, true) = L
    · obtain ⟨t, he, hd⟩ := hD.next (x, true) (by omega)
      have := edg_stp hll hC hne he
      have hst : t.2 = true ∧ stpE l x t.1 = 2 := by
        rcases this with h | ⟨_, h, _⟩
        · exact h
        · simp at h
      have := h.f2 x t.1 hx (hall _ _ (edg_pr he)) hst.2 (by rw [show ((t.1, true) : St) = t from Prod.ext rfl hst.1.symm]; omega) e
      rw [this, e, trn_self (by omega)]
    · rcases h.f1 x hx with e1 | ⟨_, e2⟩
      · rw [e1, trn_step hL e]
      · exact absurd e2 e
end
end Go.Proofs.Ytibpkgopbecfoaa
