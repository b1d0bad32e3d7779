/- Chapter 17's Upward and Least; the reference's Other. Conditions: none. -/
import Derived.Test.YtggaonafmiklaaaGK
namespace Go.Proofs.Ytggaonafmiklaaa
set_option linter.unusedSimpArgs false
set_option linter.unusedVariables false
open Go.RowKit

def upE (p : Pl) (l : List Int) (i x : Int) : Bool × Int :=
  bif !ordB p l then (false, 1)
  else bif (bif decide (i < 0) then true else decide ((p.cs.length : Int) ≤ i)) then (false, 2)
  else bif (bif !decide (x = (p.cs.getD i.toNat default).a) then !decide (x = (p.cs.getD i.toNat default).b) else false) then (false, 2)
  else bif (bif decide (l.getD (p.cs.getD i.toNat default).a.toNat 0 < 0) then true else decide (l.getD (p.cs.getD i.toNat default).b.toNat 0 < 0)) then (false, 12)
  else (aboveB l ((p.cs.getD i.toNat default).a + (p.cs.getD i.toNat default).b - x) x, 0)
structure OrdVal (p : Pl) (l : List Int) : Prop where
  v : validE p = 0
  len : l.length = p.ns.length
  rng : ∀ x, inN p.ns.length x → -1 ≤ lvl l x ∧ lvl l x < p.ns.length
theorem ord_of {p : Pl} {l : List Int} (h : ordB p l = true) : OrdVal p l := by
  unfold ordB at h
  simp only [Bool.and_eq_true, decide_eq_true_eq] at h
  obtain ⟨⟨h1, h2⟩, h3, _, _⟩ := h
  refine ⟨h1, h2, fun x hx => ?_⟩
  have hlt : x.toNat < l.length := by unfold inN at hx; omega
  have := List.all_eq_true.1 h3 (l.getD x.toNat 0) (by rw [List.getD_eq_getElem?_getD, List.getElem?_eq_getElem hlt]; exact List.getElem_mem hlt)
  simpa [rngB, lvl] using this
theorem cs_mem {p : Pl} {i : Int} (h0 : 0 ≤ i) (h1 : i < p.cs.length) : p.cs.getD i.toNat default ∈ p.cs := by
  have : i.toNat < p.cs.length := by omega
  rw [List.getD_eq_getElem?_getD, List.getElem?_eq_getElem this]; exact List.getElem_mem this
set_option maxRecDepth 10000 in
theorem ev_upward (p : Pl) (hp : PlOk p) (l : List Int) (i x : Int) : Ev Try.prog 16 [plV p, .agg [intsV l], .sc (.int .i64 i), .sc (.int .i64 x)] (.tup [.sc (.bool (upE p l i x).1), .sc (.int .i64 (upE p l i x).2)]) := by
  have h15 := ev_ordValid p hp l
  have h20 := ev_above l
  unfold plV intsV at *
  refine ev_fn Try.func16 comp16 (show 4 ≤ Try.f16.ntmps by decide) ?_; unfold cf16 rf16; simp only [↓EVP0, EVQ0, EVQ1, EVQ2, EVQ3, EVQ4, EVA, EVK, EVF, ↓reduceIte, Nat.reduceEqDiff, Nat.reduceAdd, Nat.reduceSub, Nat.reduceMul, Nat.reduceLT, Nat.reduceLeDiff, reduceCtorEq, Int.reduceToNat, Int.reduceLT, Int.reduceLE, Int.reduceAdd, Int.reduceSub, Int.reduceMul, Int.reduceNeg, Int.reduceEq, Nat.reduceMod, forall_eq_or_imp, forall_eq, forall_const, cond_true, cond_false, decide_true, decide_false, true_imp_iff, implies_true, Int.cast_ofNat_Int, forall_eq']
  refine callK_ro h15 ?_ ?_
  · simp only [↓EVP0, EVQ0, EVQ1, EVQ2, EVQ3, EVQ4, EVA, EVK, EVF, ↓reduceIte, Nat.reduceEqDiff, Nat.reduceAdd, Nat.reduceSub, Nat.reduceMul, Nat.reduceLT, Nat.reduceLeDiff, reduceCtorEq, Int.reduceToNat, Int.reduceLT, Int.reduceLE, Int.reduceAdd, Int.reduceSub, Int.reduceMul, Int.reduceNeg, Int.reduceEq, Nat.reduceMod, forall_eq_or_imp, forall_eq, forall_const, cond_true, cond_false, decide_true, decide_false, true_imp_iff, implies_true, Int.cast_ofNat_Int, forall_eq']
  simp only [↓EVP0, EVQ0, EVQ1, EVQ2, EVQ3, EVQ4, EVA, EVK, EVF, ↓reduceIte, Nat.reduceEqDiff, Nat.reduceAdd, Nat.reduceSub, Nat.reduceMul, Nat.reduceLT, Nat.reduceLeDiff, reduceCtorEq, Int.reduceToNat, Int.reduceLT, Int.reduceLE, Int.reduceAdd, Int.reduceSub, Int.reduceMul, Int.reduceNeg, Int.reduceEq, Nat.reduceMod, forall_eq_or_imp, forall_eq, forall_const, cond_true, cond_false, decide_true, decide_false, true_imp_iff, implies_true, Int.cast_ofNat_Int, forall_eq']
  refine ⟨fun g1 => by unfold upE; rw [g1]; exact ⟨rfl, rfl⟩, fun g1 => ⟨fun g2 => by unfold upE; rw [g1, g2]; exact ⟨rfl, rfl⟩, fun g2 => ?_⟩⟩
  have hO := ord_of (p := p) (l := l) (by simpa using g1)
  have hV := valid_of hO.v
  have hi : 0 ≤ i ∧ i < p.cs.length := by
    revert g2; cases h : decide (i < 0) <;> simp at h ⊢; omega
  have hc := hV.cab _ (cs_mem hi.1 hi.2)
  have hlen := hO.len
  have n16 := hV.n16
  unfold inN at hc
  refine ⟨hi, fun g3 => by unfold upE; rw [g1, g2, g3]; exact ⟨rfl, rfl⟩, fun g3 => ⟨⟨by omega, by omega⟩, fun _ => ⟨by omega, by omega⟩, fun g4 => by unfold upE; rw [g1, g2, g3, g4]; exact ⟨rfl, rfl⟩, fun g4 => ?_⟩⟩
  have hx : x = (p.cs.getD i.toNat default).a ∨ x = (p.cs.getD i.toNat default).b := by
    by_cases h : x = (p.cs.getD i.toNat default).a
    · exact .inl h
    · rw [decide_eq_false h] at g3
      exact .inr (by simpa using g3)
  refine ⟨by unfold In64; omega, by unfold In64; omega, callK_ro (h20 _ _) ?_ ?_⟩
  · simp only [↓EVP0, EVQ0, EVQ1, EVQ2, EVQ3, EVQ4, EVA, EVK, EVF, ↓reduceIte, Nat.reduceEqDiff, Nat.reduceAdd, Nat.reduceSub, Nat.reduceMul, Nat.reduceLT, Nat.reduceLeDiff, reduceCtorEq, Int.reduceToNat, Int.reduceLT, Int.reduceLE, Int.reduceAdd, Int.reduceSub, Int.reduceMul, Int.reduceNeg, Int.reduceEq, Nat.reduceMod, forall_eq_or_imp, forall_eq, forall_const, cond_true, cond_false, decide_true, decide_false, true_imp_iff, implies_true, Int.cast_ofNat_Int, forall_eq']
  simp only [↓EVP0, EVQ0, EVQ1, EVQ2, EVQ3, EVQ4, EVA, EVK, EVF, ↓reduceIte, Nat.reduceEqDiff, Nat.reduceAdd, Nat.reduceSub, Nat.reduceMul, Nat.reduceLT, Nat.reduceLeDiff, reduceCtorEq, Int.reduceToNat, Int.reduceLT, Int.reduceLE, Int.reduceAdd, Int.reduceSub, Int.reduceMul, Int.reduceNeg, Int.reduceEq, Nat.reduceMod, forall_eq_or_imp, forall_eq, forall_const, cond_true, cond_false, decide_true, decide_false, true_imp_iff, implies_true, Int.cast_ofNat_Int, forall_eq']
  unfold upE; rw [g1, g2, g3, g4]; exact ⟨rfl, rfl⟩
/-- The least node that is a switch, or 0. -/
def swFrom (l : List Nd) : Nat → Nat → Nat
  | 0, _ => 0
  | k + 1, i => bif (l.getD i default).sw then i else swFrom l k (i + 1)
def leastE (p : Pl) (up : List Bool) : Int × Bool :=
  bif !usableB p up || decide (p.ns.length = 0) then (0, false) else (((swFrom p.ns p.ns.length 0 : Nat) : Int), true)
theorem ev_least (p : Pl) (hp : PlOk p) (up : List Bool) : Ev Try.prog 21 [plV p, boolsV up] (.tup [.sc (.int .i64 (leastE p up).1), .sc (.bool (leastE p up).2)]) := by
  have h25 := ev_valid p hp
  unfold plV boolsV at *
  refine ev_fn Try.func21 comp21 (show 2 ≤ Try.f21.ntmps by decide) ?_; unfold cf21 rf21; simp only [↓EVP0, EVQ0, EVQ1, EVQ2, EVQ3, EVQ4, EVA, EVK, EVF, ↓reduceIte, Nat.reduceEqDiff, Nat.reduceAdd, Nat.reduceSub, Nat.reduceMul, Nat.reduceLT, Nat.reduceLeDiff, reduceCtorEq, Int.reduceToNat, Int.reduceLT, Int.reduceLE, Int.reduceAdd, Int.reduceSub, Int.reduceMul, Int.reduceNeg, Int.reduceEq, Nat.reduceMod, forall_eq_or_imp, forall_eq, forall_const, cond_true, cond_false, decide_true, decide_false, true_imp_iff, implies_true, Int.cast_ofNat_Int, forall_eq']
  refine callK_ro h25 ?_ ?_
  · simp only [↓EVP0, EVQ0, EVQ1, EVQ2, EVQ3, EVQ4, EVA, EVK, EVF, ↓reduceIte, Nat.reduceEqDiff, Nat.reduceAdd, Nat.reduceSub, Nat.reduceMul, Nat.reduceLT, Nat.reduceLeDiff, reduceCtorEq, Int.reduceToNat, Int.reduceLT, Int.reduceLE, Int.reduceAdd, Int.reduceSub, Int.reduceMul, Int.reduceNeg, Int.reduceEq, Nat.reduceMod, forall_eq_or_imp, forall_eq, forall_const, cond_true, cond_false, decide_true, decide_false, true_imp_iff, implies_true, Int.cast_ofNat_Int, forall_eq']
  simp only [↓EVP0, EVQ0, EVQ1, EVQ2, EVQ3, EVQ4, EVA, EVK, EVF, ↓reduceIte, Nat.reduceEqDiff, Nat.reduceAdd, Nat.reduceSub, Nat.reduceMul, Nat.reduceLT, Nat.reduceLeDiff, reduceCtorEq, Int.reduceToNat, Int.reduceLT, Int.reduceLE, Int.reduceAdd, Int.reduceSub, Int.reduceMul, Int.reduceNeg, Int.reduceEq, Nat.reduceMod, forall_eq_or_imp, forall_eq, forall_const, cond_true, cond_false, decide_true, decide_false, true_imp_iff, implies_true, Int.cast_ofNat_Int, forall_eq']
  have hu : usableB p up = (decide (validE p = 0) && decide (up.length = p.cs.length)) := rfl
  have hu2 : (!usableB p up || decide (p.ns.length = 0)) = (bif bif !decide (validE p = 0) then true else !decide ((up.length : Int) = p.cs.length) then true else decide ((p.ns.length : Int) = 0)) := by
    rw [hu]
    by_cases h1 : validE p = 0 <;> by_cases h2 : up.length = p.cs.length <;> by_cases h3 : p.ns.length = 0 <;> simp [h1, h2, h3] <;> omega
  refine ⟨fun hg => by unfold leastE; rw [hu2, hg]; exact ⟨rfl, rfl⟩, fun hg _ => ?_⟩
  have hl : leastE p up = (((swFrom p.ns p.ns.length 0 : Nat) : Int), true) := by unfold leastE; rw [hu2, hg]; rfl
  rw [hl]
  have hn16 : p.ns.length ≤ 16 := by
    have : validE p = 0 := by revert hg; by_cases h1 : validE p = 0 <;> simp [h1]
    exact (valid_of this).n16
  refine lwp_for (α := Unit) p.ns.length (fun i _ => swFrom p.ns p.ns.length 0 = swFrom p.ns (p.ns.length - i) i) (fun i _ => [(26, .rsl 3 p.ns.length (ndsF p.ns)), (27, .sc (.int .i64 p.ns.length)), (28, .sc (.int .i64 i))])
    (fun i _ => []) () rfl ?_ (fun _ _ => Nat.zero_le _) ?_
  · simp only [↓EVP0, EVQ0, EVQ1, EVQ2, EVQ3, EVQ4, EVA, EVK, EVF, ↓reduceIte, Nat.reduceEqDiff, Nat.reduceAdd, Nat.reduceSub, Nat.reduceMul, Nat.reduceLT, Nat.reduceLeDiff, reduceCtorEq, Int.reduceToNat, Int.reduceLT, Int.reduceLE, Int.reduceAdd, Int.reduceSub, Int.reduceMul, Int.reduceNeg, Int.reduceEq, Nat.reduceMod, forall_eq_or_imp, forall_eq, forall_const, cond_true, cond_false, decide_true, decide_false, true_imp_iff, implies_true, Int.cast_ofNat_Int, forall_eq']
  intro i _ hi hx
  unfold lb21_0
  simp only [↓EVP0, EVQ0, EVQ1, EVQ2, EVQ3, EVQ4, EVA, EVK, EVF, ↓reduceIte, Nat.reduceEqDiff, Nat.reduceAdd, Nat.reduceSub, Nat.reduceMul, Nat.reduceLT, Nat.reduceLeDiff, reduceCtorEq, Int.reduceToNat, Int.reduceLT, Int.reduceLE, Int.reduceAdd, Int.reduceSub, Int.reduceMul, Int.reduceNeg, Int.reduceEq, Nat.reduceMod, forall_eq_or_imp, forall_eq, forall_const, cond_true, cond_false, decide_true, decide_false, true_imp_iff, implies_true, Int.cast_ofNat_Int, forall_eq']
  refine ⟨fun hg => ?_, fun hg => ?_⟩
  · have hi2 : i < p.ns.length := by simpa using hg
    have e : p.ns.length - i = (p.ns.length - (i + 1)) + 1 := by omega
    rw [hx, e]
    refine ⟨⟨by omega, by omega⟩, fun h => ?_, fun h => ?_⟩
    · simp only [swFrom, h, cond_true]
    · exact ⟨by unfold In64; omega, hi2, (), by simp only [swFrom, h, cond_false]⟩
  · have hii : i = p.ns.length := by simp at hg; omega
    rw [hx, hii, Nat.sub_self]; rfl
def otherE (c : Cb) (x : Int) : Int := bif decide (c.a = x) then c.b else bif decide (c.b = x) then c.a else -1
theorem ev_other (c : Cb) (x : Int) : Ev Try.prog 27 [.agg (cbL c), .sc (.int .i64 x)] (.sc (.int .i64 (otherE c x))) := by
  unfold cbL
  refine ev_fn Try.func27 comp27 (show 2 ≤ Try.f27.ntmps by decide) ?_; unfold cf27 rf27; simp only [↓EVP0, EVQ0, EVQ1, EVQ2, EVQ3, EVQ4, EVA, EVK, EVF, ↓reduceIte, Nat.reduceEqDiff, Nat.reduceAdd, Nat.reduceSub, Nat.reduceMul, Nat.reduceLT, Nat.reduceLeDiff, reduceCtorEq, Int.reduceToNat, Int.reduceLT, Int.reduceLE, Int.reduceAdd, Int.reduceSub, Int.reduceMul, Int.reduceNeg, Int.reduceEq, Nat.reduceMod, forall_eq_or_imp, forall_eq, forall_const, cond_true, cond_false, decide_true, decide_false, true_imp_iff, implies_true, Int.cast_ofNat_Int, forall_eq']
  unfold otherE
  refine ⟨fun h => by rw [h]; rfl, fun h => ⟨fun h2 => by rw [h, h2]; rfl, fun h2 => by rw [h, h2]; rfl⟩⟩
theorem ev_Other (p : Pl) (i x : Int) (h0 : 0 ≤ i) (h1 : i < p.cs.length) : Ev Try.prog 18 [plV p, .sc (.int .i64 i), .sc (.int .i64 x)] (.sc (.int .i64 (otherE (p.cs.getD i.toNat default) x))) := by
  have h27 := ev_other
  unfold plV cbL at *
  refine ev_fn Try.func18 comp18 (show 3 ≤ Try.f18.ntmps by decide) ?_; unfold cf18 rf18; simp only [↓EVP0, EVQ0, EVQ1, EVQ2, EVQ3, EVQ4, EVA, EVK, EVF, ↓reduceIte, Nat.reduceEqDiff, Nat.reduceAdd, Nat.reduceSub, Nat.reduceMul, Nat.reduceLT, Nat.reduceLeDiff, reduceCtorEq, Int.reduceToNat, Int.reduceLT, Int.reduceLE, Int.reduceAdd, Int.reduceSub, Int.reduceMul, Int.reduceNeg, Int.reduceEq, Nat.reduceMod, forall_eq_or_imp, forall_eq, forall_const, cond_true, cond_false, decide_true, decide_false, true_imp_iff, implies_true, Int.cast_ofNat_Int, forall_eq']
  refine ⟨⟨h0, h1⟩, callK_ro (h27 _ _) ?_ ?_⟩
  · simp only [↓EVP0, EVQ0, EVQ1, EVQ2, EVQ3, EVQ4, EVA, EVK, EVF, ↓reduceIte, Nat.reduceEqDiff, Nat.reduceAdd, Nat.reduceSub, Nat.reduceMul, Nat.reduceLT, Nat.reduceLeDiff, reduceCtorEq, Int.reduceToNat, Int.reduceLT, Int.reduceLE, Int.reduceAdd, Int.reduceSub, Int.reduceMul, Int.reduceNeg, Int.reduceEq, Nat.reduceMod, forall_eq_or_imp, forall_eq, forall_const, cond_true, cond_false, decide_true, decide_false, true_imp_iff, implies_true, Int.cast_ofNat_Int, forall_eq']
  simp only [↓EVP0, EVQ0, EVQ1, EVQ2, EVQ3, EVQ4, EVA, EVK, EVF, ↓reduceIte, Nat.reduceEqDiff, Nat.reduceAdd, Nat.reduceSub, Nat.reduceMul, Nat.reduceLT, Nat.reduceLeDiff, reduceCtorEq, Int.reduceToNat, Int.reduceLT, Int.reduceLE, Int.reduceAdd, Int.reduceSub, Int.reduceMul, Int.reduceNeg, Int.reduceEq, Nat.reduceMod, forall_eq_or_imp, forall_eq, forall_const, cond_true, cond_false, decide_true, decide_false, true_imp_iff, implies_true, Int.cast_ofNat_Int, forall_eq']
end Go.Proofs.Ytggaonafmiklaaa
