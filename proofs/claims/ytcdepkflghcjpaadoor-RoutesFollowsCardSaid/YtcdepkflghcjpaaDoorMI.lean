/- Chapter 19: following a table, step by step; Chapter 19: following the table of an order takes the chosen path; Chapter 19: the rest of a path that is followed is the path from the node that is reached; Chapter 19: following the table of an order takes the chosen path; Chapter 19: which tables lead from any node to any other one; Chapter 19: the table of the order of the same cables reaches every node with a level; Chapter 19: the reference's Valid; Chapter 19: the reference's Follow; Chapter 19: lists of numbers as a table; the reference's Reaches; Chapter 19: lists of numbers as a table; Chapter 19: Valid and Follow return the specified results; Chapter 19: the argument that is a list of lists, opened. Conditions: none. -/
import Derived.Test.YtcdepkflghcjpaaDoorMH
namespace Go.Proofs.YtcdepkflghcjpaaDoor
set_option linter.unusedSimpArgs false
set_option linter.unusedVariables false
open Go.RowKit
set_option maxRecDepth 20000

abbrev Rf := Nat → Bool → Bool
def rfF (r : Rf) (i : Nat) : List LV := [.sc (.bool (r i false)), .sc (.bool (r i true))]
def rfSet (r : Rf) (x : Nat) (b : Bool) : Rf := fun i c => if i = x ∧ c = b then true else r i c
def rfCnt (n : Nat) (r : Rf) : Nat := ((List.range n).map fun i => (if r i false = true then 0 else 1) + (if r i true = true then 0 else 1)).sum
def tabE (t : Tb) (x : Nat) (b : Bool) (w : Nat) : Int := (bif b then (t.getD x ([], [])).2 else (t.getD x ([], [])).1).getD w 0
def fol (p : Pl) (l : List Int) (t : Tb) (w : Nat) : Nat → Rf → Nat → Bool → List Int → List Int × Int
  | 0, _, _, _, _ => ([], 11)
  | k + 1, r, x, b, path => if r x b = true then ([], 11) else if tabE t x b w = -2 then (path, 0) else if tabE t x b w = -1 then ([], 12) else
      fol p l t w k (rfSet r x b) (acrE (p.cs.getD (tabE t x b w).toNat default) x).1.toNat (b || !aboveB l (acrE (p.cs.getD (tabE t x b w).toNat default) x).1 x) (path ++ [tabE t x b w])
theorem sum_map_lt {n x : Nat} (hx : x < n) {f g : Nat → Nat} (h1 : ∀ i, i ≠ x → f i = g i) (h2 : f x + 1 = g x) : ((List.range n).map f).sum + 1 = ((List.range n).map g).sum := by
  induction n with
  | zero => omega
  | succ n ih =>
    rw [List.range_succ, List.map_append, List.map_append, List.sum_append, List.sum_append]
    simp only [List.map_cons, List.map_nil, List.sum_cons, List.sum_nil, Nat.add_zero]
    by_cases e : x = n
    · subst e
      have : (List.range x).map f = (List.range x).map g := List.map_congr_left fun i hi => h1 i (by have := List.mem_range.1 hi; omega)
      rw [this]; omega
    · have := ih (by omega)
      rw [h1 n (by omega)]; omega
theorem rfCnt_set {n : Nat} {r : Rf} {x : Nat} {b : Bool} (hx : x < n) (hr : r x b = false) : rfCnt n (rfSet r x b) + 1 = rfCnt n r := by
  unfold rfCnt
  refine sum_map_lt hx (fun i hi => ?_) ?_
  · unfold rfSet; simp [hi]
  · unfold rfSet
    cases b <;> simp [hr] <;> omega
theorem rf_row {n : Nat} (r : Rf) (y : Nat) (b : Bool) : (LO.row 2 n fun j => if j = y then (rfF r y).set (bif b then 1 else 0) (.sc (.bool true)) else rfF r j) = LO.row 2 n (rfF (rfSet r y b)) := by
  congr 1
  funext j
  by_cases e : j = y
  · subst e
    rw [if_pos rfl]
    cases b
    · show [LV.sc (.bool true), .sc (.bool (r j true))] = _
      unfold rfF rfSet; simp
    · show [LV.sc (.bool (r j false)), .sc (.bool true)] = _
      unfold rfF rfSet; simp
  · rw [if_neg e]
    unfold rfF rfSet; simp [e]
theorem ev_follow (p : Pl) (hv : validE p = 0) (l : List Int) (t : Tb) (ht : validT p t = true) (x w : Int) (hx : inN p.ns.length x) (hw : inN p.ns.length w) :
    Ev Tryd.prog 48 [plV p, .agg [intsV l], tabV t, .sc (.int .i64 x), .sc (.int .i64 w)] (.tup [intsV (fol p l t w.toNat (rfCnt p.ns.length (fun _ _ => false) + 1) (fun _ _ => false) x.toNat false []).1, .sc (.int .i64 (fol p l t w.toNat (rfCnt p.ns.length (fun _ _ => false) + 1) (fun _ _ => false) x.toNat false []).2)]) := by
  have h1 := fun c y => ev_across19 (p.cs.getD c default) y
  have h2 := fun a b => ev_above l a b
  have h16 := (valid_of hv).n16
  unfold cbL at h1
  unfold plV intsV tabV at *
  refine ev_fn Tryd.func48 comp48 (show 5 ≤ Tryd.f48.ntmps by decide) ?_; unfold cf48 rf48; simp only [↓EVP0, EVQ0, EVQ1, EVQ2, EVQ3, EVQ4, EVA, EVK, EVF,EVFT, ↓reduceIte, Nat.reduceEqDiff, Nat.reduceAdd, Nat.reduceSub, Nat.reduceMul, Nat.reduceLT, Nat.reduceLeDiff, reduceCtorEq, Int.reduceToNat, Int.reduceLT, Int.reduceLE, Int.reduceAdd, Int.reduceSub, Int.reduceMul, Int.reduceNeg, Int.reduceEq, Nat.reduceMod, forall_eq_or_imp, forall_eq, forall_const, cond_true, cond_false, decide_true, decide_false, true_imp_iff, implies_true, Int.cast_ofNat_Int, forall_eq']
  generalize hR : fol p l t w.toNat (rfCnt p.ns.length (fun _ _ => false) + 1) (fun _ _ => false) x.toNat false [] = R
  intro _
  refine ⟨by unfold mksC; omega, ?_⟩
  refine lwp_loop (α := Rf × Nat × Bool × List Int) (fun q => q.2.1 < p.ns.length ∧ q.2.2.2.length + rfCnt p.ns.length q.1 = rfCnt p.ns.length (fun _ _ => false) ∧ fol p l t w.toNat (rfCnt p.ns.length q.1 + 1) q.1 q.2.1 q.2.2.1 q.2.2.2 = R)
    (fun q => [(4, .sc (.int .i64 w)), (5, .ptr 0 0 0 0 0), (6, .ptr 1 0 0 0 0), (7, .ptr 2 0 0 0 0), (12, .sl 3 q.2.2.2.length 1 0 q.2.2.2.length), (13, .sl 4 0 2 0 p.ns.length), (14, .sc (.int .i64 q.2.1)), (15, .sc (.int .i64 (if q.2.2.1 = true then 1 else 0)))])
    (fun q => [(0, .box [.rsl 3 p.ns.length (ndsF p.ns), .rsl 6 p.cs.length (cbsF p.cs)]), (0, .box [.rsl 1 l.length (intsF l)]), (0, .box [.rsl 2 t.length (tabF t)]), (q.2.2.2.length, .ints q.2.2.2), (0, .row 2 p.ns.length (rfF q.1))]) (fun q => rfCnt p.ns.length q.1) (fun _ _ => false, x.toNat, false, []) ⟨by unfold inN at hx; simp only; omega, by simp, hR⟩ ?_ (fun _ => Nat.zero_le _) ?_
  · simp only [↓EVP0, EVQ0, EVQ1, EVQ2, EVQ3, EVQ4, EVA, EVK, EVF,EVFT, ↓reduceIte, Nat.reduceEqDiff, Nat.reduceAdd, Nat.reduceSub, Nat.reduceMul, Nat.reduceLT, Nat.reduceLeDiff, reduceCtorEq, Int.reduceToNat, Int.reduceLT, Int.reduceLE, Int.reduceAdd, Int.reduceSub, Int.reduceMul, Int.reduceNeg, Int.reduceEq, Nat.reduceMod, forall_eq_or_imp, forall_eq, forall_const, cond_true, cond_false, decide_true, decide_false, true_imp_iff, implies_true, Int.cast_ofNat_Int, forall_eq']
    unfold inN at hx
    exact ⟨by omega, rfl, fun i _ => ⟨trivial, trivial, trivial⟩⟩
  have htl : t.length = p.ns.length := by
    unfold validT at ht
    simp only [Bool.and_eq_true, decide_eq_true_eq] at ht
    exact ht.2.1
  have hrows : ∀ y, y < p.ns.length → rowB19 p y (t.getD y ([], [])).1 = true ∧ rowB19 p y (t.getD y ([], [])).2 = true := by
    intro y hy
    unfold validT at ht
    simp only [Bool.and_eq_true, decide_eq_true_eq, List.all_eq_true] at ht
    exact ht.2.2 y (List.mem_range.2 (by omega))
  have hrow : ∀ y, y < p.ns.length → (t.getD y ([], [])).1.length = p.ns.length ∧ (t.getD y ([], [])).2.length = p.ns.length := by
    intro y hy
    obtain ⟨h3, h4⟩ := hrows y hy
    unfold rowB19 at h3 h4
    simp only [Bool.and_eq_true, decide_eq_true_eq] at h3 h4
    exact ⟨h3.1, h4.1⟩
  have hpe : ∀ y b, y < p.ns.length → permB p (y : Nat) (w.toNat : Nat) (tabE t y b w.toNat) = true := by
    intro y b hy
    obtain ⟨h3, h4⟩ := hrows y hy
    obtain ⟨h5, h6⟩ := hrow y hy
    unfold rowB19 at h3 h4
    simp only [Bool.and_eq_true, decide_eq_true_eq, List.all_eq_true] at h3 h4
    have hwn : w.toNat < p.ns.length := by unfold inN at hw; omega
    cases b
    · exact h3.2 w.toNat (List.mem_range.2 (by omega))
    · exact h4.2 w.toNat (List.mem_range.2 (by omega))
  have hperm : ∀ y b, y < p.ns.length → (tabE t y b w.toNat ≠ -2 → tabE t y b w.toNat ≠ -1 → 0 ≤ tabE t y b w.toNat ∧ tabE t y b w.toNat < p.cs.length ∧ (acrE (p.cs.getD (tabE t y b w.toNat).toNat default) (y : Int)).2 = true) := by
    intro y b hy n2 n1
    have h7 := hpe y b hy
    unfold permB at h7
    rw [decide_eq_false n2, decide_eq_false n1, Bool.or_false, Bool.and_false, Bool.false_or] at h7
    cases e : decide ((y : Int) = (w.toNat : Nat))
    · rw [e, cond_false] at h7
      simp only [Bool.and_eq_true, decide_eq_true_eq] at h7
      exact h7
    · rw [e, cond_true] at h7; simp at h7
  unfold inN at hw
  have hcnt : rfCnt p.ns.length (fun _ _ => false) ≤ 32 := by
    have : ∀ n, rfCnt n (fun _ _ => false) = 2 * n := by
      intro n
      induction n with
      | zero => rfl
      | succ n ih =>
        unfold rfCnt at *
        rw [List.range_succ, List.map_append, List.sum_append, ih]
        simp
        omega
    rw [this]; omega
  rintro ⟨r, y, b, path⟩ ⟨i1, i2, i3⟩
  simp only at i1 i2 i3 ⊢
  rcases Bool.eq_false_or_eq_true b with rfl | rfl
  · have hcell : (List.drop 1 (rfF r y)).getD 0 LV.any = .sc (.bool (r y true)) := rfl
    have p1 := hperm y true i1
    have hrl := (hrow y i1).2
    have hte : tabE t y true w.toNat = (t.getD y ([], [])).2.getD w.toNat 0 := rfl
    unfold fol at i3
    rw [hte] at i3 p1
    generalize hc : (t.getD y ([], [])).2.getD w.toNat 0 = c at i3 p1
    unfold lb48_0
    simp only [hcell, ↓EVP0, EVQ0, EVQ1, EVQ2, EVQ3, EVQ4, EVA, EVK, EVF,EVFT, ↓reduceIte, Nat.reduceEqDiff, Nat.reduceAdd, Nat.reduceSub, Nat.reduceMul, Nat.reduceLT, Nat.reduceLeDiff, reduceCtorEq, Int.reduceToNat, Int.reduceLT, Int.reduceLE, Int.reduceAdd, Int.reduceSub, Int.reduceMul, Int.reduceNeg, Int.reduceEq, Nat.reduceMod, forall_eq_or_imp, forall_eq, forall_const, cond_true, cond_false, decide_true, decide_false, true_imp_iff, implies_true, Int.cast_ofNat_Int, forall_eq']
    rw [hc, hrl]
    refine ⟨⟨by omega, by omega⟩, ⟨by decide, i1, rfl⟩, fun hr => ?_, fun hr => ⟨⟨by omega, by omega⟩, ⟨i1, rfl⟩, ⟨by omega, by omega⟩, ⟨by omega, by omega⟩, fun h3 => ?_, fun h3 => ⟨fun h4 => ?_, fun h4 => ?_⟩⟩⟩
    · rw [if_pos hr] at i3
      rw [← i3]; exact ⟨rfl, rfl⟩
    · rw [if_neg (by rw [hr]; simp), if_pos (of_decide_eq_true h3)] at i3
      rw [← i3]; exact ⟨⟨rfl, Nat.le_refl _, fun i _ => rfl⟩, rfl⟩
    · rw [if_neg (by rw [hr]; simp), if_neg (of_decide_eq_false h3), if_pos (of_decide_eq_true h4)] at i3
      rw [← i3]; exact ⟨rfl, rfl⟩
    rw [if_neg (by rw [hr]; simp), if_neg (of_decide_eq_false h3), if_neg (of_decide_eq_false h4)] at i3
    obtain ⟨c1, c2, c3⟩ := p1 (of_decide_eq_false h3) (of_decide_eq_false h4)
    have hcs := rfCnt_set i1 hr
    refine ⟨Nat.le_refl _, by unfold appRoom; omega, ⟨c1, c2⟩, ?_⟩
    refine callK_ro (h1 c.toNat y) ?_ ?_
    · simp only [↓EVP0, EVQ0, EVQ1, EVQ2, EVQ3, EVQ4, EVA, EVK, EVF,EVFT, ↓reduceIte, Nat.reduceEqDiff, Nat.reduceAdd, Nat.reduceSub, Nat.reduceMul, Nat.reduceLT, Nat.reduceLeDiff, reduceCtorEq, Int.reduceToNat, Int.reduceLT, Int.reduceLE, Int.reduceAdd, Int.reduceSub, Int.reduceMul, Int.reduceNeg, Int.reduceEq, Nat.reduceMod, forall_eq_or_imp, forall_eq, forall_const, cond_true, cond_false, decide_true, decide_false, true_imp_iff, implies_true, Int.cast_ofNat_Int, forall_eq']
    simp only [↓EVP0, EVQ0, EVQ1, EVQ2, EVQ3, EVQ4, EVA, EVK, EVF,EVFT, ↓reduceIte, Nat.reduceEqDiff, Nat.reduceAdd, Nat.reduceSub, Nat.reduceMul, Nat.reduceLT, Nat.reduceLeDiff, reduceCtorEq, Int.reduceToNat, Int.reduceLT, Int.reduceLE, Int.reduceAdd, Int.reduceSub, Int.reduceMul, Int.reduceNeg, Int.reduceEq, Nat.reduceMod, forall_eq_or_imp, forall_eq, forall_const, cond_true, cond_false, decide_true, decide_false, true_imp_iff, implies_true, Int.cast_ofNat_Int, forall_eq']
    have hy := acr_in hv ⟨c1, c2⟩ c3
    generalize (acrE (p.cs.getD c.toNat default) y).1 = z at hy i3 ⊢
    refine callK_ro (h2 z y) ?_ ?_
    · simp only [↓EVP0, EVQ0, EVQ1, EVQ2, EVQ3, EVQ4, EVA, EVK, EVF,EVFT, ↓reduceIte, Nat.reduceEqDiff, Nat.reduceAdd, Nat.reduceSub, Nat.reduceMul, Nat.reduceLT, Nat.reduceLeDiff, reduceCtorEq, Int.reduceToNat, Int.reduceLT, Int.reduceLE, Int.reduceAdd, Int.reduceSub, Int.reduceMul, Int.reduceNeg, Int.reduceEq, Nat.reduceMod, forall_eq_or_imp, forall_eq, forall_const, cond_true, cond_false, decide_true, decide_false, true_imp_iff, implies_true, Int.cast_ofNat_Int, forall_eq']
    simp only [↓EVP0, EVQ0, EVQ1, EVQ2, EVQ3, EVQ4, EVA, EVK, EVF,EVFT, ↓reduceIte, Nat.reduceEqDiff, Nat.reduceAdd, Nat.reduceSub, Nat.reduceMul, Nat.reduceLT, Nat.reduceLeDiff, reduceCtorEq, Int.reduceToNat, Int.reduceLT, Int.reduceLE, Int.reduceAdd, Int.reduceSub, Int.reduceMul, Int.reduceNeg, Int.reduceEq, Nat.reduceMod, forall_eq_or_imp, forall_eq, forall_const, cond_true, cond_false, decide_true, decide_false, true_imp_iff, implies_true, Int.cast_ofNat_Int, forall_eq']
    have hzb : 0 ≤ z ∧ z < p.ns.length := by unfold inN at hy; exact hy
    refine ⟨fun hg => ⟨(rfSet r y true, z.toNat, (true || !aboveB l z y), path ++ [c]), ⟨by show z.toNat < _; omega, ?_, ?_⟩, ⟨⟨?_, ?_, ?_⟩, ⟨?_, ?_⟩, rf_row r y true, fun i _ => ⟨trivial, trivial, trivial⟩⟩, by show rfCnt _ (rfSet r y true) < _; omega⟩, fun hg => ⟨(rfSet r y true, z.toNat, (true || !aboveB l z y), path ++ [c]), ⟨by show z.toNat < _; omega, ?_, ?_⟩, ⟨⟨?_, ?_, ?_⟩, ⟨?_, ?_⟩, rf_row r y true, fun i _ => ⟨trivial, trivial, trivial⟩⟩, by show rfCnt _ (rfSet r y true) < _; omega⟩⟩
    all_goals simp only
    all_goals first
      | (rw [hcs]; exact i3)
      | (rw [hg]; rfl)
      | (rw [List.take_length])
      | (rw [List.length_append]; rfl)
      | (rw [List.length_append, List.length_singleton]; omega)
      | omega
      | rfl
  · have hcell : (rfF r y).getD 0 LV.any = .sc (.bool (r y false)) := rfl
    have p1 := hperm y false i1
    have hrl := (hrow y i1).1
    have hte : tabE t y false w.toNat = (t.getD y ([], [])).1.getD w.toNat 0 := rfl
    unfold fol at i3
    rw [hte] at i3 p1
    generalize hc : (t.getD y ([], [])).1.getD w.toNat 0 = c at i3 p1
    unfold lb48_0
    simp only [hcell, ↓EVP0, EVQ0, EVQ1, EVQ2, EVQ3, EVQ4, EVA, EVK, EVF,EVFT, ↓reduceIte, Nat.reduceEqDiff, Nat.reduceAdd, Nat.reduceSub, Nat.reduceMul, Nat.reduceLT, Nat.reduceLeDiff, reduceCtorEq, Int.reduceToNat, Int.reduceLT, Int.reduceLE, Int.reduceAdd, Int.reduceSub, Int.reduceMul, Int.reduceNeg, Int.reduceEq, Nat.reduceMod, forall_eq_or_imp, forall_eq, forall_const, cond_true, cond_false, decide_true, decide_false, true_imp_iff, implies_true, Int.cast_ofNat_Int, forall_eq']
    rw [hc, hrl]
    refine ⟨⟨by omega, by omega⟩, ⟨by decide, i1, rfl⟩, fun hr => ?_, fun hr => ⟨⟨by omega, by omega⟩, ⟨i1, rfl⟩, ⟨by omega, by omega⟩, ⟨by omega, by omega⟩, fun h3 => ?_, fun h3 => ⟨fun h4 => ?_, fun h4 => ?_⟩⟩⟩
    · rw [if_pos hr] at i3
      rw [← i3]; exact ⟨rfl, rfl⟩
    · rw [if_neg (by rw [hr]; simp), if_pos (of_decide_eq_true h3)] at i3
      rw [← i3]; exact ⟨⟨rfl, Nat.le_refl _, fun i _ => rfl⟩, rfl⟩
    · rw [if_neg (by rw [hr]; simp), if_neg (of_decide_eq_false h3), if_pos (of_decide_eq_true h4)] at i3
      rw [← i3]; exact ⟨rfl, rfl⟩
    rw [if_neg (by rw [hr]; simp), if_neg (of_decide_eq_false h3), if_neg (of_decide_eq_false h4)] at i3
    obtain ⟨c1, c2, c3⟩ := p1 (of_decide_eq_false h3) (of_decide_eq_false h4)
    have hcs := rfCnt_set i1 hr
    refine ⟨Nat.le_refl _, by unfold appRoom; omega, ⟨c1, c2⟩, ?_⟩
    refine callK_ro (h1 c.toNat y) ?_ ?_
    · simp only [↓EVP0, EVQ0, EVQ1, EVQ2, EVQ3, EVQ4, EVA, EVK, EVF,EVFT, ↓reduceIte, Nat.reduceEqDiff, Nat.reduceAdd, Nat.reduceSub, Nat.reduceMul, Nat.reduceLT, Nat.reduceLeDiff, reduceCtorEq, Int.reduceToNat, Int.reduceLT, Int.reduceLE, Int.reduceAdd, Int.reduceSub, Int.reduceMul, Int.reduceNeg, Int.reduceEq, Nat.reduceMod, forall_eq_or_imp, forall_eq, forall_const, cond_true, cond_false, decide_true, decide_false, true_imp_iff, implies_true, Int.cast_ofNat_Int, forall_eq']
    simp only [↓EVP0, EVQ0, EVQ1, EVQ2, EVQ3, EVQ4, EVA, EVK, EVF,EVFT, ↓reduceIte, Nat.reduceEqDiff, Nat.reduceAdd, Nat.reduceSub, Nat.reduceMul, Nat.reduceLT, Nat.reduceLeDiff, reduceCtorEq, Int.reduceToNat, Int.reduceLT, Int.reduceLE, Int.reduceAdd, Int.reduceSub, Int.reduceMul, Int.reduceNeg, Int.reduceEq, Nat.reduceMod, forall_eq_or_imp, forall_eq, forall_const, cond_true, cond_false, decide_true, decide_false, true_imp_iff, implies_true, Int.cast_ofNat_Int, forall_eq']
    have hy := acr_in hv ⟨c1, c2⟩ c3
    generalize (acrE (p.cs.getD c.toNat default) y).1 = z at hy i3 ⊢
    refine callK_ro (h2 z y) ?_ ?_
    · simp only [↓EVP0, EVQ0, EVQ1, EVQ2, EVQ3, EVQ4, EVA, EVK, EVF,EVFT, ↓reduceIte, Nat.reduceEqDiff, Nat.reduceAdd, Nat.reduceSub, Nat.reduceMul, Nat.reduceLT, Nat.reduceLeDiff, reduceCtorEq, Int.reduceToNat, Int.reduceLT, Int.reduceLE, Int.reduceAdd, Int.reduceSub, Int.reduceMul, Int.reduceNeg, Int.reduceEq, Nat.reduceMod, forall_eq_or_imp, forall_eq, forall_const, cond_true, cond_false, decide_true, decide_false, true_imp_iff, implies_true, Int.cast_ofNat_Int, forall_eq']
    simp only [↓EVP0, EVQ0, EVQ1, EVQ2, EVQ3, EVQ4, EVA, EVK, EVF,EVFT, ↓reduceIte, Nat.reduceEqDiff, Nat.reduceAdd, Nat.reduceSub, Nat.reduceMul, Nat.reduceLT, Nat.reduceLeDiff, reduceCtorEq, Int.reduceToNat, Int.reduceLT, Int.reduceLE, Int.reduceAdd, Int.reduceSub, Int.reduceMul, Int.reduceNeg, Int.reduceEq, Nat.reduceMod, forall_eq_or_imp, forall_eq, forall_const, cond_true, cond_false, decide_true, decide_false, true_imp_iff, implies_true, Int.cast_ofNat_Int, forall_eq']
    have hzb : 0 ≤ z ∧ z < p.ns.length := by unfold inN at hy; exact hy
    refine ⟨fun hg => ⟨(rfSet r y false, z.toNat, (false || !aboveB l z y), path ++ [c]), ⟨by show z.toNat < _; omega, ?_, ?_⟩, ⟨⟨?_, ?_, ?_⟩, ⟨?_, ?_⟩, rf_row r y false, fun i _ => ⟨trivial, trivial, trivial⟩⟩, by show rfCnt _ (rfSet r y false) < _; omega⟩, fun hg => ⟨(rfSet r y false, z.toNat, (false || !aboveB l z y), path ++ [c]), ⟨by show z.toNat < _; omega, ?_, ?_⟩, ⟨⟨?_, ?_, ?_⟩, ⟨?_, ?_⟩, rf_row r y false, fun i _ => ⟨trivial, trivial, trivial⟩⟩, by show rfCnt _ (rfSet r y false) < _; omega⟩⟩
    all_goals simp only
    all_goals first
      | (rw [hcs]; exact i3)
      | (rw [hg]; rfl)
      | (rw [List.take_length])
      | (rw [List.length_append]; rfl)
      | (rw [List.length_append, List.length_singleton]; omega)
      | omega
      | rfl
end Go.Proofs.YtcdepkflghcjpaaDoor
namespace Go.Proofs.YtcdepkflghcjpaaDoor
set_option linter.unusedSimpArgs false
set_option linter.unusedVariables false
open Go.RowKit
set_option maxRecDepth 20000

def folE (p : Pl) (l : List Int) (t : Tb) (x w : Int) : List Int × Int :=
  if ordB p l = true ∧ validT p t = true then (if nodB p x = true ∧ nodB p w = true then fol p l t w.toNat (rfCnt p.ns.length (fun _ _ => false) + 1) (fun _ _ => false) x.toNat false [] else ([], 2)) else ([], 1)
theorem ev_Follow19 (p : Pl) (hp : PlOk p) (l : List Int) (t : Tb) (x w : Int) : Ev Tryd.prog 19 [plV p, .agg [intsV l], tabV t, .sc (.int .i64 x), .sc (.int .i64 w)] (.tup [intsV (folE p l t x w).1, .sc (.int .i64 (folE p l t x w).2)]) := by
  have h1 := ev_ordValid p hp l
  have h2 := ev_valid19 p hp t
  have h3 := fun hv ht hx hw => ev_follow p hv l t ht x w hx hw
  unfold plV intsV tabV at *
  refine ev_fn Tryd.func19 comp19 (show 5 ≤ Tryd.f19.ntmps by decide) ?_; unfold cf19 rf19; simp only [↓EVP0, EVQ0, EVQ1, EVQ2, EVQ3, EVQ4, EVA, EVK, EVF,EVFT, ↓reduceIte, Nat.reduceEqDiff, Nat.reduceAdd, Nat.reduceSub, Nat.reduceMul, Nat.reduceLT, Nat.reduceLeDiff, reduceCtorEq, Int.reduceToNat, Int.reduceLT, Int.reduceLE, Int.reduceAdd, Int.reduceSub, Int.reduceMul, Int.reduceNeg, Int.reduceEq, Nat.reduceMod, forall_eq_or_imp, forall_eq, forall_const, cond_true, cond_false, decide_true, decide_false, true_imp_iff, implies_true, Int.cast_ofNat_Int, forall_eq']
  refine callK_ro (h1) ?_ ?_
  · simp only [↓EVP0, EVQ0, EVQ1, EVQ2, EVQ3, EVQ4, EVA, EVK, EVF,EVFT, ↓reduceIte, Nat.reduceEqDiff, Nat.reduceAdd, Nat.reduceSub, Nat.reduceMul, Nat.reduceLT, Nat.reduceLeDiff, reduceCtorEq, Int.reduceToNat, Int.reduceLT, Int.reduceLE, Int.reduceAdd, Int.reduceSub, Int.reduceMul, Int.reduceNeg, Int.reduceEq, Nat.reduceMod, forall_eq_or_imp, forall_eq, forall_const, cond_true, cond_false, decide_true, decide_false, true_imp_iff, implies_true, Int.cast_ofNat_Int, forall_eq']
  simp only [↓EVP0, EVQ0, EVQ1, EVQ2, EVQ3, EVQ4, EVA, EVK, EVF,EVFT, ↓reduceIte, Nat.reduceEqDiff, Nat.reduceAdd, Nat.reduceSub, Nat.reduceMul, Nat.reduceLT, Nat.reduceLeDiff, reduceCtorEq, Int.reduceToNat, Int.reduceLT, Int.reduceLE, Int.reduceAdd, Int.reduceSub, Int.reduceMul, Int.reduceNeg, Int.reduceEq, Nat.reduceMod, forall_eq_or_imp, forall_eq, forall_const, cond_true, cond_false, decide_true, decide_false, true_imp_iff, implies_true, Int.cast_ofNat_Int, forall_eq']
  (refine lops_ge_imp ?_; simp only [↓EVP0, EVQ0, EVQ1, EVQ2, EVQ3, EVQ4, EVA, EVK, EVF,EVFT, ↓reduceIte, Nat.reduceEqDiff, Nat.reduceAdd, Nat.reduceSub, Nat.reduceMul, Nat.reduceLT, Nat.reduceLeDiff, reduceCtorEq, Int.reduceToNat, Int.reduceLT, Int.reduceLE, Int.reduceAdd, Int.reduceSub, Int.reduceMul, Int.reduceNeg, Int.reduceEq, Nat.reduceMod, forall_eq_or_imp, forall_eq, forall_const, cond_true, cond_false, decide_true, decide_false, true_imp_iff, implies_true, Int.cast_ofNat_Int, forall_eq'])
  refine gCallK_ro _ (fun _ => h2) (fun _ => ?_) ?_
  · simp only [↓EVP0, EVQ0, EVQ1, EVQ2, EVQ3, EVQ4, EVA, EVK, EVF,EVFT, ↓reduceIte, Nat.reduceEqDiff, Nat.reduceAdd, Nat.reduceSub, Nat.reduceMul, Nat.reduceLT, Nat.reduceLeDiff, reduceCtorEq, Int.reduceToNat, Int.reduceLT, Int.reduceLE, Int.reduceAdd, Int.reduceSub, Int.reduceMul, Int.reduceNeg, Int.reduceEq, Nat.reduceMod, forall_eq_or_imp, forall_eq, forall_const, cond_true, cond_false, decide_true, decide_false, true_imp_iff, implies_true, Int.cast_ofNat_Int, forall_eq']
  simp only [↓EVP0, EVQ0, EVQ1, EVQ2, EVQ3, EVQ4, EVA, EVK, EVF,EVFT, ↓reduceIte, Nat.reduceEqDiff, Nat.reduceAdd, Nat.reduceSub, Nat.reduceMul, Nat.reduceLT, Nat.reduceLeDiff, reduceCtorEq, Int.reduceToNat, Int.reduceLT, Int.reduceLE, Int.reduceAdd, Int.reduceSub, Int.reduceMul, Int.reduceNeg, Int.reduceEq, Nat.reduceMod, forall_eq_or_imp, forall_eq, forall_const, cond_true, cond_false, decide_true, decide_false, true_imp_iff, implies_true, Int.cast_ofNat_Int, forall_eq']
  refine ⟨fun g => ?_, fun g => ⟨fun g2 => ?_, fun g2 => ?_⟩⟩
  · have e : ¬ (ordB p l = true ∧ validT p t = true) := by
      rintro ⟨a, b⟩
      rw [a, b] at g
      simp at g
    unfold folE
    rw [if_neg e]
    exact ⟨rfl, rfl⟩
  · have e : ordB p l = true ∧ validT p t = true := by
      revert g
      cases ordB p l <;> cases validT p t <;> simp
    have e2 : ¬ (nodB p x = true ∧ nodB p w = true) := by
      rintro ⟨a, b⟩
      have a1 := nodB_in a
      have b1 := nodB_in b
      unfold inN at a1 b1
      rw [decide_eq_false (show ¬ x < 0 by omega), decide_eq_false (show ¬ (p.ns.length : Int) ≤ x by omega), decide_eq_false (show ¬ w < 0 by omega), decide_eq_false (show ¬ (p.ns.length : Int) ≤ w by omega)] at g2
      simp at g2
    unfold folE
    rw [if_pos e, if_neg e2]
    exact ⟨rfl, rfl⟩
  · have e : ordB p l = true ∧ validT p t = true := by
      revert g
      cases ordB p l <;> cases validT p t <;> simp
    have b : (0 ≤ x ∧ x < p.ns.length) ∧ (0 ≤ w ∧ w < p.ns.length) := by
      have c1 : ¬ x < 0 := fun c => by rw [decide_eq_true c] at g2; simp at g2
      have c2 : ¬ (p.ns.length : Int) ≤ x := fun c => by rw [decide_eq_true c] at g2; simp at g2
      have c3 : ¬ w < 0 := fun c => by rw [decide_eq_true c] at g2; simp at g2
      have c4 : ¬ (p.ns.length : Int) ≤ w := fun c => by rw [decide_eq_true c] at g2; simp at g2
      omega
    have e2 : nodB p x = true ∧ nodB p w = true := by unfold nodB; simp [b.1.1, b.1.2, b.2.1, b.2.2]
    have h4 := h3 (ord_of e.1).v e.2 (nodB_in e2.1) (nodB_in e2.2)
    have ee : folE p l t x w = fol p l t w.toNat (rfCnt p.ns.length (fun _ _ => false) + 1) (fun _ _ => false) x.toNat false [] := by
      unfold folE
      rw [if_pos e, if_pos e2]
    rw [ee]
    refine callK_ro (h4) ?_ ?_
    · simp only [↓EVP0, EVQ0, EVQ1, EVQ2, EVQ3, EVQ4, EVA, EVK, EVF,EVFT, ↓reduceIte, Nat.reduceEqDiff, Nat.reduceAdd, Nat.reduceSub, Nat.reduceMul, Nat.reduceLT, Nat.reduceLeDiff, reduceCtorEq, Int.reduceToNat, Int.reduceLT, Int.reduceLE, Int.reduceAdd, Int.reduceSub, Int.reduceMul, Int.reduceNeg, Int.reduceEq, Nat.reduceMod, forall_eq_or_imp, forall_eq, forall_const, cond_true, cond_false, decide_true, decide_false, true_imp_iff, implies_true, Int.cast_ofNat_Int, forall_eq']
    simp only [↓EVP0, EVQ0, EVQ1, EVQ2, EVQ3, EVQ4, EVA, EVK, EVF,EVFT, ↓reduceIte, Nat.reduceEqDiff, Nat.reduceAdd, Nat.reduceSub, Nat.reduceMul, Nat.reduceLT, Nat.reduceLeDiff, reduceCtorEq, Int.reduceToNat, Int.reduceLT, Int.reduceLE, Int.reduceAdd, Int.reduceSub, Int.reduceMul, Int.reduceNeg, Int.reduceEq, Nat.reduceMod, forall_eq_or_imp, forall_eq, forall_const, cond_true, cond_false, decide_true, decide_false, true_imp_iff, implies_true, Int.cast_ofNat_Int, forall_eq']
end Go.Proofs.YtcdepkflghcjpaaDoor
namespace Go.Proofs.YtcdepkflghcjpaaDoor
set_option linter.unusedSimpArgs false
set_option linter.unusedVariables false
open Go.RowKit
set_option maxRecDepth 20000

end Go.Proofs.YtcdepkflghcjpaaDoor
namespace Go.Proofs.YtcdepkflghcjpaaDoor
set_option linter.unusedSimpArgs false
set_option linter.unusedVariables false
open Go.RowKit
set_option maxRecDepth 20000

end Go.Proofs.YtcdepkflghcjpaaDoor
namespace Go.Proofs.YtcdepkflghcjpaaDoor
set_option linter.unusedSimpArgs false
set_option linter.unusedVariables false
open Go.RowKit
set_option maxRecDepth 20000

def folA (p : Pl) (l : List Int) (t : Tb) (a w : Nat) : List Int × Int := fol p l t w (rfCnt p.ns.length (fun _ _ => false) + 1) (fun _ _ => false) a false []
theorem fol_len {p : Pl} {l : List Int} {t : Tb} {w : Nat} : ∀ (k : Nat) (r : Rf) (x : Nat) (b : Bool) (path : List Int), (fol p l t w k r x b path).1.length ≤ path.length + k
  | 0, _, _, _, _ => Nat.zero_le _
  | k + 1, r, x, b, path => by
    unfold fol
    split
    · exact Nat.zero_le _
    split
    · show path.length ≤ _
      omega
    split
    · exact Nat.zero_le _
    · have := fol_len (p := p) (l := l) (t := t) (w := w) k (rfSet r x b) (acrE (p.cs.getD (tabE t x b w).toNat default) x).1.toNat (b || !aboveB l (acrE (p.cs.getD (tabE t x b w).toNat default) x).1 x) (path ++ [tabE t x b w])
      simp only [List.length_append, List.length_singleton] at this
      omega
theorem rfCnt_none : ∀ n : Nat, rfCnt n (fun _ _ => false) = 2 * n := by
  intro n
  unfold rfCnt
  induction n with
  | zero => rfl
  | succ n ih => rw [List.range_succ, List.map_append, List.sum_append, ih]; simp; omega
def rchB (p : Pl) (l : List Int) (t : Tb) (a w : Nat) : Bool := (decide (l.getD a 0 < 0) || decide (l.getD w 0 < 0)) || (decide ((folA p l t a w).2 = 0) && legalE p l (a : Int) (folA p l t a w).1)
def reachB (p : Pl) (l : List Int) (t : Tb) : Bool := ordB p l && (validT p t && (List.range p.ns.length).all fun a => (List.range p.ns.length).all fun w => rchB p l t a w)
theorem ev_Reaches (p : Pl) (hp : PlOk p) (l : List Int) (t : Tb) : Ev Tryd.prog 24 [plV p, .agg [intsV l], tabV t] (.sc (.bool (reachB p l t))) := by
  have h1 := ev_ordValid p hp l
  have h2 := ev_valid19 p hp t
  have h3 := fun hv ht x w hx hw => ev_follow p hv l t ht x w hx hw
  have h4 := fun f q hq => ev_legal p hp l f q hq
  unfold plV intsV tabV at *
  refine ev_fn Tryd.func24 comp24 (show 3 ≤ Tryd.f24.ntmps by decide) ?_; unfold cf24 rf24; simp only [↓EVP0, EVQ0, EVQ1, EVQ2, EVQ3, EVQ4, EVA, EVK, EVF,EVFT, ↓reduceIte, Nat.reduceEqDiff, Nat.reduceAdd, Nat.reduceSub, Nat.reduceMul, Nat.reduceLT, Nat.reduceLeDiff, reduceCtorEq, Int.reduceToNat, Int.reduceLT, Int.reduceLE, Int.reduceAdd, Int.reduceSub, Int.reduceMul, Int.reduceNeg, Int.reduceEq, Nat.reduceMod, forall_eq_or_imp, forall_eq, forall_const, cond_true, cond_false, decide_true, decide_false, true_imp_iff, implies_true, Int.cast_ofNat_Int, forall_eq']
  refine callK_ro (h1) ?_ ?_
  · simp only [↓EVP0, EVQ0, EVQ1, EVQ2, EVQ3, EVQ4, EVA, EVK, EVF,EVFT, ↓reduceIte, Nat.reduceEqDiff, Nat.reduceAdd, Nat.reduceSub, Nat.reduceMul, Nat.reduceLT, Nat.reduceLeDiff, reduceCtorEq, Int.reduceToNat, Int.reduceLT, Int.reduceLE, Int.reduceAdd, Int.reduceSub, Int.reduceMul, Int.reduceNeg, Int.reduceEq, Nat.reduceMod, forall_eq_or_imp, forall_eq, forall_const, cond_true, cond_false, decide_true, decide_false, true_imp_iff, implies_true, Int.cast_ofNat_Int, forall_eq']
  simp only [↓EVP0, EVQ0, EVQ1, EVQ2, EVQ3, EVQ4, EVA, EVK, EVF,EVFT, ↓reduceIte, Nat.reduceEqDiff, Nat.reduceAdd, Nat.reduceSub, Nat.reduceMul, Nat.reduceLT, Nat.reduceLeDiff, reduceCtorEq, Int.reduceToNat, Int.reduceLT, Int.reduceLE, Int.reduceAdd, Int.reduceSub, Int.reduceMul, Int.reduceNeg, Int.reduceEq, Nat.reduceMod, forall_eq_or_imp, forall_eq, forall_const, cond_true, cond_false, decide_true, decide_false, true_imp_iff, implies_true, Int.cast_ofNat_Int, forall_eq']
  (refine lops_ge_imp ?_; simp only [↓EVP0, EVQ0, EVQ1, EVQ2, EVQ3, EVQ4, EVA, EVK, EVF,EVFT, ↓reduceIte, Nat.reduceEqDiff, Nat.reduceAdd, Nat.reduceSub, Nat.reduceMul, Nat.reduceLT, Nat.reduceLeDiff, reduceCtorEq, Int.reduceToNat, Int.reduceLT, Int.reduceLE, Int.reduceAdd, Int.reduceSub, Int.reduceMul, Int.reduceNeg, Int.reduceEq, Nat.reduceMod, forall_eq_or_imp, forall_eq, forall_const, cond_true, cond_false, decide_true, decide_false, true_imp_iff, implies_true, Int.cast_ofNat_Int, forall_eq'])
  refine gCallK_ro _ (fun _ => h2) (fun _ => ?_) ?_
  · simp only [↓EVP0, EVQ0, EVQ1, EVQ2, EVQ3, EVQ4, EVA, EVK, EVF,EVFT, ↓reduceIte, Nat.reduceEqDiff, Nat.reduceAdd, Nat.reduceSub, Nat.reduceMul, Nat.reduceLT, Nat.reduceLeDiff, reduceCtorEq, Int.reduceToNat, Int.reduceLT, Int.reduceLE, Int.reduceAdd, Int.reduceSub, Int.reduceMul, Int.reduceNeg, Int.reduceEq, Nat.reduceMod, forall_eq_or_imp, forall_eq, forall_const, cond_true, cond_false, decide_true, decide_false, true_imp_iff, implies_true, Int.cast_ofNat_Int, forall_eq']
  simp only [↓EVP0, EVQ0, EVQ1, EVQ2, EVQ3, EVQ4, EVA, EVK, EVF,EVFT, ↓reduceIte, Nat.reduceEqDiff, Nat.reduceAdd, Nat.reduceSub, Nat.reduceMul, Nat.reduceLT, Nat.reduceLeDiff, reduceCtorEq, Int.reduceToNat, Int.reduceLT, Int.reduceLE, Int.reduceAdd, Int.reduceSub, Int.reduceMul, Int.reduceNeg, Int.reduceEq, Nat.reduceMod, forall_eq_or_imp, forall_eq, forall_const, cond_true, cond_false, decide_true, decide_false, true_imp_iff, implies_true, Int.cast_ofNat_Int, forall_eq']
  refine ⟨fun hg => ?_, fun hg _ => ?_⟩
  · unfold reachB
    cases e1 : ordB p l
    · rfl
    · cases e2 : validT p t
      · rfl
      · rw [e1, e2] at hg; simp at hg
  have e : ordB p l = true ∧ validT p t = true := by
    revert hg
    cases ordB p l <;> cases validT p t <;> simp
  have hO := ord_of e.1
  have hv := hO.v
  have hll := hO.len
  have h16 := (valid_of hv).n16
  have hB : reachB p l t = (List.range p.ns.length).all fun a => (List.range p.ns.length).all fun w => rchB p l t a w := by unfold reachB; rw [e.1, e.2]; rfl
  refine lwp_for (α := Unit) p.ns.length (fun a _ => ∀ j, j < a → ((List.range p.ns.length).all fun w => rchB p l t j w) = true) (fun a _ => [(3, .ptr 0 0 0 0 0), (4, .ptr 1 0 0 0 0), (5, .ptr 2 0 0 0 0), (23, .sc (.int .i64 p.ns.length)), (24, .sc (.int .i64 a))])
    (fun _ _ => [(0, .box [.rsl 3 p.ns.length (ndsF p.ns), .rsl 6 p.cs.length (cbsF p.cs)]), (0, .box [.rsl 1 l.length (intsF l)]), (0, .box [.rsl 2 t.length (tabF t)])]) () (fun j hj => absurd hj (Nat.not_lt_zero _)) ?_ (fun _ _ => Nat.zero_le _) ?_
  · simp only [↓EVP0, EVQ0, EVQ1, EVQ2, EVQ3, EVQ4, EVA, EVK, EVF,EVFT, ↓reduceIte, Nat.reduceEqDiff, Nat.reduceAdd, Nat.reduceSub, Nat.reduceMul, Nat.reduceLT, Nat.reduceLeDiff, reduceCtorEq, Int.reduceToNat, Int.reduceLT, Int.reduceLE, Int.reduceAdd, Int.reduceSub, Int.reduceMul, Int.reduceNeg, Int.reduceEq, Nat.reduceMod, forall_eq_or_imp, forall_eq, forall_const, cond_true, cond_false, decide_true, decide_false, true_imp_iff, implies_true, Int.cast_ofNat_Int, forall_eq']
  intro a _ ha hx
  unfold lb24_1
  simp only [↓EVP0, EVQ0, EVQ1, EVQ2, EVQ3, EVQ4, EVA, EVK, EVF,EVFT, ↓reduceIte, Nat.reduceEqDiff, Nat.reduceAdd, Nat.reduceSub, Nat.reduceMul, Nat.reduceLT, Nat.reduceLeDiff, reduceCtorEq, Int.reduceToNat, Int.reduceLT, Int.reduceLE, Int.reduceAdd, Int.reduceSub, Int.reduceMul, Int.reduceNeg, Int.reduceEq, Nat.reduceMod, forall_eq_or_imp, forall_eq, forall_const, cond_true, cond_false, decide_true, decide_false, true_imp_iff, implies_true, Int.cast_ofNat_Int, forall_eq']
  refine ⟨fun hg2 => ?_, fun hg2 => ?_⟩
  rotate_left
  · have ha2 : a = p.ns.length := by have := of_decide_eq_false hg2; omega
    rw [hB, rng_yes19 (fun i hi => hx i (by omega))]
  have ha2 : a < p.ns.length := by have := of_decide_eq_true hg2; omega
  intro _
  refine lwp_for (α := Unit) p.ns.length (fun w _ => ∀ j, j < w → rchB p l t a j = true) (fun w _ => [(3, .ptr 0 0 0 0 0), (4, .ptr 1 0 0 0 0), (5, .ptr 2 0 0 0 0), (7, .sc (.int .i64 a)), (23, .sc (.int .i64 p.ns.length)), (24, .sc (.int .i64 a)), (29, .sc (.int .i64 p.ns.length)), (30, .sc (.int .i64 w))])
    (fun _ _ => [(0, .box [.rsl 3 p.ns.length (ndsF p.ns), .rsl 6 p.cs.length (cbsF p.cs)]), (0, .box [.rsl 1 l.length (intsF l)]), (0, .box [.rsl 2 t.length (tabF t)])]) () (fun j hj => absurd hj (Nat.not_lt_zero _)) ?_ (fun _ _ => Nat.zero_le _) ?_
  · simp only [↓EVP0, EVQ0, EVQ1, EVQ2, EVQ3, EVQ4, EVA, EVK, EVF,EVFT, ↓reduceIte, Nat.reduceEqDiff, Nat.reduceAdd, Nat.reduceSub, Nat.reduceMul, Nat.reduceLT, Nat.reduceLeDiff, reduceCtorEq, Int.reduceToNat, Int.reduceLT, Int.reduceLE, Int.reduceAdd, Int.reduceSub, Int.reduceMul, Int.reduceNeg, Int.reduceEq, Nat.reduceMod, forall_eq_or_imp, forall_eq, forall_const, cond_true, cond_false, decide_true, decide_false, true_imp_iff, implies_true, Int.cast_ofNat_Int, forall_eq']
  intro w _ hw hz
  unfold lb24_0
  simp only [↓EVP0, EVQ0, EVQ1, EVQ2, EVQ3, EVQ4, EVA, EVK, EVF,EVFT, ↓reduceIte, Nat.reduceEqDiff, Nat.reduceAdd, Nat.reduceSub, Nat.reduceMul, Nat.reduceLT, Nat.reduceLeDiff, reduceCtorEq, Int.reduceToNat, Int.reduceLT, Int.reduceLE, Int.reduceAdd, Int.reduceSub, Int.reduceMul, Int.reduceNeg, Int.reduceEq, Nat.reduceMod, forall_eq_or_imp, forall_eq, forall_const, cond_true, cond_false, decide_true, decide_false, true_imp_iff, implies_true, Int.cast_ofNat_Int, forall_eq']
  refine ⟨fun hg3 => ?_, fun hg3 => ?_⟩
  rotate_left
  · have hw2 : w = p.ns.length := by have := of_decide_eq_false hg3; omega
    subst hw2
    refine ⟨by unfold In64; omega, ha2, (), fun j hj => ?_⟩
    by_cases ej : j = a
    · rw [ej]; exact rng_yes19 hz
    · exact hx j (by omega)
  have hw2 : w < p.ns.length := by have := of_decide_eq_true hg3; omega
  have hnxt : rchB p l t a w = true → ∀ j, j < w + 1 → rchB p l t a j = true := fun h j hj => by
    by_cases ej : j = w
    · rw [ej]; exact h
    · exact hz j (by omega)
  have hend : rchB p l t a w = false → false = reachB p l t := fun h => by rw [hB, rng_no19 ha2 (rng_no19 hw2 h)]
  refine ⟨⟨by omega, by omega⟩, fun _ => ⟨by omega, by omega⟩, fun hg4 => ⟨by unfold In64; omega, hw2, (), hnxt ?_⟩, fun hg4 => ?_⟩
  · unfold rchB
    revert hg4
    cases decide (l.getD a 0 < 0) <;> cases decide (l.getD w 0 < 0) <;> simp
  have hl2 : (decide (l.getD a 0 < 0) || decide (l.getD w 0 < 0)) = false := by
    revert hg4
    cases decide (l.getD a 0 < 0) <;> cases decide (l.getD w 0 < 0) <;> simp
  have hlen : (folA p l t a w).1.length ≤ 1000 := by
    unfold folA
    have := fol_len (p := p) (l := l) (t := t) (w := w) (rfCnt p.ns.length (fun _ _ => false) + 1) (fun _ _ => false) a false []
    rw [rfCnt_none] at this ⊢
    simp only [List.length_nil] at this
    omega
  have h31 := h3 hv e.2 a w (by unfold inN; omega) (by unfold inN; omega)
  rw [Int.toNat_natCast, Int.toNat_natCast] at h31
  change Ev _ _ _ (LV.tup [LV.rsl 1 (folA p l t a w).1.length (intsF (folA p l t a w).1), .sc (.int .i64 (folA p l t a w).2)]) at h31
  have h41 := h4 a (folA p l t a w).1 hlen
  have hrc : rchB p l t a w = (decide ((folA p l t a w).2 = 0) && legalE p l (a : Int) (folA p l t a w).1) := by unfold rchB; rw [hl2]; rfl
  refine callK_ro (h31) ?_ ?_
  · simp only [↓EVP0, EVQ0, EVQ1, EVQ2, EVQ3, EVQ4, EVA, EVK, EVF,EVFT, ↓reduceIte, Nat.reduceEqDiff, Nat.reduceAdd, Nat.reduceSub, Nat.reduceMul, Nat.reduceLT, Nat.reduceLeDiff, reduceCtorEq, Int.reduceToNat, Int.reduceLT, Int.reduceLE, Int.reduceAdd, Int.reduceSub, Int.reduceMul, Int.reduceNeg, Int.reduceEq, Nat.reduceMod, forall_eq_or_imp, forall_eq, forall_const, cond_true, cond_false, decide_true, decide_false, true_imp_iff, implies_true, Int.cast_ofNat_Int, forall_eq']
  simp only [↓EVP0, EVQ0, EVQ1, EVQ2, EVQ3, EVQ4, EVA, EVK, EVF,EVFT, ↓reduceIte, Nat.reduceEqDiff, Nat.reduceAdd, Nat.reduceSub, Nat.reduceMul, Nat.reduceLT, Nat.reduceLeDiff, reduceCtorEq, Int.reduceToNat, Int.reduceLT, Int.reduceLE, Int.reduceAdd, Int.reduceSub, Int.reduceMul, Int.reduceNeg, Int.reduceEq, Nat.reduceMod, forall_eq_or_imp, forall_eq, forall_const, cond_true, cond_false, decide_true, decide_false, true_imp_iff, implies_true, Int.cast_ofNat_Int, forall_eq']
  (refine lops_ge_imp ?_; simp only [↓EVP0, EVQ0, EVQ1, EVQ2, EVQ3, EVQ4, EVA, EVK, EVF,EVFT, ↓reduceIte, Nat.reduceEqDiff, Nat.reduceAdd, Nat.reduceSub, Nat.reduceMul, Nat.reduceLT, Nat.reduceLeDiff, reduceCtorEq, Int.reduceToNat, Int.reduceLT, Int.reduceLE, Int.reduceAdd, Int.reduceSub, Int.reduceMul, Int.reduceNeg, Int.reduceEq, Nat.reduceMod, forall_eq_or_imp, forall_eq, forall_const, cond_true, cond_false, decide_true, decide_false, true_imp_iff, implies_true, Int.cast_ofNat_Int, forall_eq'])
  refine gCallK_ro _ (fun _ => h41) (fun _ => ?_) ?_
  · simp only [↓EVP0, EVQ0, EVQ1, EVQ2, EVQ3, EVQ4, EVA, EVK, EVF,EVFT, ↓reduceIte, Nat.reduceEqDiff, Nat.reduceAdd, Nat.reduceSub, Nat.reduceMul, Nat.reduceLT, Nat.reduceLeDiff, reduceCtorEq, Int.reduceToNat, Int.reduceLT, Int.reduceLE, Int.reduceAdd, Int.reduceSub, Int.reduceMul, Int.reduceNeg, Int.reduceEq, Nat.reduceMod, forall_eq_or_imp, forall_eq, forall_const, cond_true, cond_false, decide_true, decide_false, true_imp_iff, implies_true, Int.cast_ofNat_Int, forall_eq']
  simp only [↓EVP0, EVQ0, EVQ1, EVQ2, EVQ3, EVQ4, EVA, EVK, EVF,EVFT, ↓reduceIte, Nat.reduceEqDiff, Nat.reduceAdd, Nat.reduceSub, Nat.reduceMul, Nat.reduceLT, Nat.reduceLeDiff, reduceCtorEq, Int.reduceToNat, Int.reduceLT, Int.reduceLE, Int.reduceAdd, Int.reduceSub, Int.reduceMul, Int.reduceNeg, Int.reduceEq, Nat.reduceMod, forall_eq_or_imp, forall_eq, forall_const, cond_true, cond_false, decide_true, decide_false, true_imp_iff, implies_true, Int.cast_ofNat_Int, forall_eq']
  rw [hrc] at hnxt hend
  revert hnxt hend
  cases decide ((folA p l t a w).2 = 0) <;> cases legalE p l (a : Int) (folA p l t a w).1 <;> intro hnxt hend
  · exact ⟨fun _ => hend rfl, fun h => by simp at h⟩
  · exact ⟨fun _ => hend rfl, fun h => by simp at h⟩
  · exact ⟨fun _ => hend rfl, fun h => by simp at h⟩
  · exact ⟨fun h => by simp at h, fun _ => ⟨by unfold In64; omega, hw2, (), hnxt rfl⟩⟩
end Go.Proofs.YtcdepkflghcjpaaDoor
namespace Go.Proofs.YtcdepkflghcjpaaDoor
set_option linter.unusedSimpArgs false
set_option linter.unusedVariables false
open Go.RowKit
set_option maxRecDepth 20000

theorem im_nsl19 (f : Nat → List LV) : Im .nsl (.rsl 1 0 f) := by
  intro R v h
  cases h with
  | nsl => exact .rsl 1 0 f none 0 0 0 (fun _ _ => undef) (Nat.le_refl _) (Nat.zero_le _) (fun h => absurd h (by omega)) (fun i hi => absurd hi (by omega)) (fun i j hi => absurd hi (by omega)) (fun i j c hi => absurd hi (by omega)) (fun i j hi => absurd hi (by omega))
end Go.Proofs.YtcdepkflghcjpaaDoor
namespace Go.Proofs.YtcdepkflghcjpaaDoor
set_option linter.unusedSimpArgs false
set_option linter.unusedVariables false
open Go.RowKit
set_option maxRecDepth 20000

theorem ev_at19 (p : Pl) (i x : Int) (h0 : 0 ≤ i) (h1 : i < p.cs.length) : Ev Tryd.prog 43 [plV p, .sc (.int .i64 i), .sc (.int .i64 x)] (.sc (.bool (acrE (p.cs.getD i.toNat default) x).2)) := by
  unfold plV
  refine ev_fn Tryd.func43 comp43 (show 3 ≤ Tryd.f43.ntmps by decide) ?_; unfold cf43 rf43; simp only [↓EVP0, EVQ0, EVQ1, EVQ2, EVQ3, EVQ4, EVA, EVK, EVF,EVFT, ↓reduceIte, Nat.reduceEqDiff, Nat.reduceAdd, Nat.reduceSub, Nat.reduceMul, Nat.reduceLT, Nat.reduceLeDiff, reduceCtorEq, Int.reduceToNat, Int.reduceLT, Int.reduceLE, Int.reduceAdd, Int.reduceSub, Int.reduceMul, Int.reduceNeg, Int.reduceEq, Nat.reduceMod, forall_eq_or_imp, forall_eq, forall_const, cond_true, cond_false, decide_true, decide_false, true_imp_iff, implies_true, Int.cast_ofNat_Int, forall_eq']
  have e : (acrE (p.cs.getD i.toNat default) x).2 = (decide ((p.cs.getD i.toNat default).a = x) || decide ((p.cs.getD i.toNat default).b = x)) := by
    unfold acrE
    rw [show decide (x = (p.cs.getD i.toNat default).a) = decide ((p.cs.getD i.toNat default).a = x) from decide_eq_decide.2 eq_comm, show decide (x = (p.cs.getD i.toNat default).b) = decide ((p.cs.getD i.toNat default).b = x) from decide_eq_decide.2 eq_comm]
    cases decide ((p.cs.getD i.toNat default).a = x) <;> cases decide ((p.cs.getD i.toNat default).b = x) <;> rfl
  rw [e]
  refine ⟨⟨h0, h1⟩, fun _ => ⟨h0, h1⟩, ?_⟩
  cases decide ((p.cs.getD i.toNat default).a = x) <;> rfl
theorem gate19 {a b : Bool} {c m : Int} (h : ((!bif bif a then true else b then true else decide (m ≤ c)) && decide (0 ≤ c)) = true) : 0 ≤ c ∧ c < m := by
  rw [Bool.and_eq_true] at h
  refine ⟨of_decide_eq_true h.2, ?_⟩
  by_cases e : m ≤ c
  · rw [decide_eq_true e] at h
    revert h
    cases a <;> cases b <;> simp
  · omega
theorem bad19 (p : Pl) (u k c : Int) : (bif bif bif true ^^ decide (decide (c = -2) = decide (u = k)) then true else decide (c < -2) then true else decide ((p.cs.length : Int) ≤ c) then true
    else bif decide (0 ≤ c) then !(acrE (p.cs.getD c.toNat default) u).2 else false) = !permB p u k c := by
  unfold permB
  by_cases a1 : c = -2
  · subst a1
    by_cases a2 : u = k
    · rw [decide_eq_true a2, decide_eq_false (show ¬ (p.cs.length : Int) ≤ -2 by omega)]; rfl
    · rw [decide_eq_false a2]; rfl
  rw [decide_eq_false a1]
  by_cases a2 : u = k
  · rw [decide_eq_true a2]; rfl
  rw [decide_eq_false a2]
  by_cases a3 : c < -2
  · rw [decide_eq_true a3, decide_eq_false (show ¬ c = -1 by omega), decide_eq_false (show ¬ (0 : Int) ≤ c by omega)]; rfl
  rw [decide_eq_false a3]
  by_cases a4 : (p.cs.length : Int) ≤ c
  · rw [decide_eq_true a4, decide_eq_false (show ¬ c = -1 by omega), decide_eq_false (show ¬ c < (p.cs.length : Int) by omega)]; simp
  rw [decide_eq_false a4]
  by_cases a5 : (0 : Int) ≤ c
  · rw [decide_eq_true a5, decide_eq_false (show ¬ c = -1 by omega), decide_eq_true (show c < (p.cs.length : Int) by omega)]; simp
  · rw [decide_eq_false a5, decide_eq_true (show c = -1 by omega)]; rfl
def refVT (p : Pl) (t : Tb) : Bool := decide (t.length = p.ns.length) && (List.range t.length).all fun u => rowB19 p u (t.getD u ([], [])).1 && rowB19 p u (t.getD u ([], [])).2
theorem ev_refV (p : Pl) (t : Tb) : Ev Tryd.prog 23 [plV p, .rsl 2 t.length (tabF t)] (.sc (.bool (refVT p t))) := by
  have h1 := ev_at19 p
  unfold plV at *
  refine ev_fn Tryd.func23 comp23 (show 2 ≤ Tryd.f23.ntmps by decide) ?_; unfold cf23 rf23; simp only [↓EVP0, EVQ0, EVQ1, EVQ2, EVQ3, EVQ4, EVA, EVK, EVF,EVFT, ↓reduceIte, Nat.reduceEqDiff, Nat.reduceAdd, Nat.reduceSub, Nat.reduceMul, Nat.reduceLT, Nat.reduceLeDiff, reduceCtorEq, Int.reduceToNat, Int.reduceLT, Int.reduceLE, Int.reduceAdd, Int.reduceSub, Int.reduceMul, Int.reduceNeg, Int.reduceEq, Nat.reduceMod, forall_eq_or_imp, forall_eq, forall_const, cond_true, cond_false, decide_true, decide_false, true_imp_iff, implies_true, Int.cast_ofNat_Int, forall_eq']
  intro _ _
  refine ⟨fun hg => ?_, fun hg => ?_⟩
  · unfold refVT
    rw [decide_eq_false (show ¬ t.length = p.ns.length from fun h => by rw [decide_eq_true (show (t.length : Int) = p.ns.length by omega)] at hg; simp at hg)]; rfl
  have hn : t.length = p.ns.length := by
    by_cases b : (t.length : Int) = p.ns.length
    · omega
    · rw [decide_eq_false b] at hg; simp at hg
  have hvT : refVT p t = ((List.range t.length).all fun u => rowB19 p u (t.getD u ([], [])).1 && rowB19 p u (t.getD u ([], [])).2) := by
    unfold refVT; rw [decide_eq_true hn]; rfl
  refine lwp_for (α := Unit) t.length (fun u _ => ∀ j, j < u → (rowB19 p j (t.getD j ([], [])).1 && rowB19 p j (t.getD j ([], [])).2) = true) (fun u _ => [(1, .rsl 2 t.length (tabF t)), (2, .ptr 0 0 0 0 0), (5, .sc (.int .i64 p.ns.length)), (6, .sc (.int .i64 u))])
    (fun _ _ => [(0, .box [.rsl 3 p.ns.length (ndsF p.ns), .rsl 6 p.cs.length (cbsF p.cs)])]) () (fun j hj => absurd hj (Nat.not_lt_zero _)) ?_ (fun _ _ => Nat.zero_le _) ?_
  · simp only [↓EVP0, EVQ0, EVQ1, EVQ2, EVQ3, EVQ4, EVA, EVK, EVF,EVFT, ↓reduceIte, Nat.reduceEqDiff, Nat.reduceAdd, Nat.reduceSub, Nat.reduceMul, Nat.reduceLT, Nat.reduceLeDiff, reduceCtorEq, Int.reduceToNat, Int.reduceLT, Int.reduceLE, Int.reduceAdd, Int.reduceSub, Int.reduceMul, Int.reduceNeg, Int.reduceEq, Nat.reduceMod, forall_eq_or_imp, forall_eq, forall_const, cond_true, cond_false, decide_true, decide_false, true_imp_iff, implies_true, Int.cast_ofNat_Int, forall_eq']
  intro u _ hu hx
  unfold lb23_2
  simp only [↓EVP0, EVQ0, EVQ1, EVQ2, EVQ3, EVQ4, EVA, EVK, EVF,EVFT, ↓reduceIte, Nat.reduceEqDiff, Nat.reduceAdd, Nat.reduceSub, Nat.reduceMul, Nat.reduceLT, Nat.reduceLeDiff, reduceCtorEq, Int.reduceToNat, Int.reduceLT, Int.reduceLE, Int.reduceAdd, Int.reduceSub, Int.reduceMul, Int.reduceNeg, Int.reduceEq, Nat.reduceMod, forall_eq_or_imp, forall_eq, forall_const, cond_true, cond_false, decide_true, decide_false, true_imp_iff, implies_true, Int.cast_ofNat_Int, forall_eq']
  refine ⟨fun hg2 => ?_, fun hg2 => ?_⟩
  rotate_left
  · have hu2 : u = t.length := by have := of_decide_eq_false hg2; omega
    subst hu2
    rw [hvT, rng_yes19 hx]
  have hu2 : u < t.length := by have := of_decide_eq_true hg2; omega
  have hno : (rowB19 p u (t.getD u ([], [])).1 && rowB19 p u (t.getD u ([], [])).2) = false → false = refVT p t := fun h => by rw [hvT, rng_no19 hu2 h]
  refine lwp_for (α := Unit) 2 (fun k _ => (0 < k → rowB19 p u (t.getD u ([], [])).1 = true) ∧ (1 < k → rowB19 p u (t.getD u ([], [])).1 = true ∧ rowB19 p u (t.getD u ([], [])).2 = true)) (fun k _ => [(1, .rsl 2 t.length (tabF t)), (2, .ptr 0 0 0 0 0), (5, .sc (.int .i64 p.ns.length)), (6, .sc (.int .i64 u)), (7, .sc (.int .i64 k))])
    (fun _ _ => [(0, .box [.rsl 3 p.ns.length (ndsF p.ns), .rsl 6 p.cs.length (cbsF p.cs)])]) () ⟨fun h => absurd h (by omega), fun h => absurd h (by omega)⟩ ?_ (fun _ _ => Nat.zero_le _) ?_
  · simp only [↓EVP0, EVQ0, EVQ1, EVQ2, EVQ3, EVQ4, EVA, EVK, EVF,EVFT, ↓reduceIte, Nat.reduceEqDiff, Nat.reduceAdd, Nat.reduceSub, Nat.reduceMul, Nat.reduceLT, Nat.reduceLeDiff, reduceCtorEq, Int.reduceToNat, Int.reduceLT, Int.reduceLE, Int.reduceAdd, Int.reduceSub, Int.reduceMul, Int.reduceNeg, Int.reduceEq, Nat.reduceMod, forall_eq_or_imp, forall_eq, forall_const, cond_true, cond_false, decide_true, decide_false, true_imp_iff, implies_true, Int.cast_ofNat_Int, forall_eq']
  intro ph _ hph hph2
  have h3c : ph = 0 ∨ ph = 1 ∨ ph = 2 := by omega
  rcases h3c with rfl | rfl | rfl
  · unfold lb23_1
    simp only [↓EVP0, EVQ0, EVQ1, EVQ2, EVQ3, EVQ4, EVA, EVK, EVF,EVFT, ↓reduceIte, Nat.reduceEqDiff, Nat.reduceAdd, Nat.reduceSub, Nat.reduceMul, Nat.reduceLT, Nat.reduceLeDiff, reduceCtorEq, Int.reduceToNat, Int.reduceLT, Int.reduceLE, Int.reduceAdd, Int.reduceSub, Int.reduceMul, Int.reduceNeg, Int.reduceEq, Nat.reduceMod, forall_eq_or_imp, forall_eq, forall_const, cond_true, cond_false, decide_true, decide_false, true_imp_iff, implies_true, Int.cast_ofNat_Int, forall_eq']
    refine ⟨⟨by omega, by omega⟩, fun _ => ⟨fun hg4 => ?_, fun hg4 => ?_⟩⟩
    · exact hno (by
        have : rowB19 p u (t.getD u ([], [])).1 = false := by
          unfold rowB19
          rw [decide_eq_false (show ¬ (t.getD u ([], [])).1.length = p.ns.length from fun h => by rw [decide_eq_true (show ((t.getD u ([], [])).1.length : Int) = p.ns.length by omega)] at hg4; simp at hg4)]; rfl
        rw [this]; rfl)
    have hrn : (t.getD u ([], [])).1.length = p.ns.length := by
      by_cases h : ((t.getD u ([], [])).1.length : Int) = p.ns.length
      · omega
      · rw [decide_eq_false h] at hg4; simp at hg4
    refine lwp_for (α := Unit) p.ns.length (fun k _ => ∀ j, j < k → permB p u (j : Nat) ((t.getD u ([], [])).1.getD j 0) = true) (fun k _ => [(1, .rsl 2 t.length (tabF t)), (2, .ptr 0 0 0 0 0), (5, .sc (.int .i64 p.ns.length)), (6, .sc (.int .i64 u)), (7, .sc (.int .i64 0)), (8, .sc (.int .i64 k))])
      (fun _ _ => [(0, .box [.rsl 3 p.ns.length (ndsF p.ns), .rsl 6 p.cs.length (cbsF p.cs)])]) () (fun j hj => absurd hj (Nat.not_lt_zero _)) ?_ (fun _ _ => Nat.zero_le _) ?_
    · simp only [↓EVP0, EVQ0, EVQ1, EVQ2, EVQ3, EVQ4, EVA, EVK, EVF,EVFT, ↓reduceIte, Nat.reduceEqDiff, Nat.reduceAdd, Nat.reduceSub, Nat.reduceMul, Nat.reduceLT, Nat.reduceLeDiff, reduceCtorEq, Int.reduceToNat, Int.reduceLT, Int.reduceLE, Int.reduceAdd, Int.reduceSub, Int.reduceMul, Int.reduceNeg, Int.reduceEq, Nat.reduceMod, forall_eq_or_imp, forall_eq, forall_const, cond_true, cond_false, decide_true, decide_false, true_imp_iff, implies_true, Int.cast_ofNat_Int, forall_eq']
    intro k _ hk hz
    unfold lb23_0
    simp only [↓EVP0, EVQ0, EVQ1, EVQ2, EVQ3, EVQ4, EVA, EVK, EVF,EVFT, ↓reduceIte, Nat.reduceEqDiff, Nat.reduceAdd, Nat.reduceSub, Nat.reduceMul, Nat.reduceLT, Nat.reduceLeDiff, reduceCtorEq, Int.reduceToNat, Int.reduceLT, Int.reduceLE, Int.reduceAdd, Int.reduceSub, Int.reduceMul, Int.reduceNeg, Int.reduceEq, Nat.reduceMod, forall_eq_or_imp, forall_eq, forall_const, cond_true, cond_false, decide_true, decide_false, true_imp_iff, implies_true, Int.cast_ofNat_Int, forall_eq']
    refine ⟨fun hg5 => ?_, fun hg5 => ?_⟩
    rotate_left
    · have hk2 : k = p.ns.length := by have := of_decide_eq_false hg5; omega
      have hrow : rowB19 p u (t.getD u ([], [])).1 = true := by
        unfold rowB19
        rw [decide_eq_true hrn, rng_yes19 (fun i hi => hz i (by omega))]; rfl
      exact ⟨by unfold In64; omega, (), hrow⟩
    have hk2 : k < p.ns.length := by have := of_decide_eq_true hg5; omega
    have hbad : permB p u k ((t.getD u ([], [])).1.getD k 0) = false → false = refVT p t := fun hb => hno (by
      have : rowB19 p u (t.getD u ([], [])).1 = false := by
        unfold rowB19
        rw [rng_no19 (show k < (t.getD u ([], [])).1.length by omega) hb, Bool.and_false]
      rw [this]; rfl)
    have hnxt : permB p u k ((t.getD u ([], [])).1.getD k 0) = true → ∀ j, j < k + 1 → permB p u (j : Nat) ((t.getD u ([], [])).1.getD j 0) = true := fun h j hj => by
      by_cases e : j = k
      · rw [e]; exact h
      · exact hz j (by omega)
    generalize (t.getD u ([], [])).1.getD k 0 = c at *
    refine ⟨⟨by omega, by omega⟩, ⟨by omega, by omega⟩, ?_⟩
    (refine lops_ge_imp ?_; simp only [↓EVP0, EVQ0, EVQ1, EVQ2, EVQ3, EVQ4, EVA, EVK, EVF,EVFT, ↓reduceIte, Nat.reduceEqDiff, Nat.reduceAdd, Nat.reduceSub, Nat.reduceMul, Nat.reduceLT, Nat.reduceLeDiff, reduceCtorEq, Int.reduceToNat, Int.reduceLT, Int.reduceLE, Int.reduceAdd, Int.reduceSub, Int.reduceMul, Int.reduceNeg, Int.reduceEq, Nat.reduceMod, forall_eq_or_imp, forall_eq, forall_const, cond_true, cond_false, decide_true, decide_false, true_imp_iff, implies_true, Int.cast_ofNat_Int, forall_eq'])
    refine gCallK_ro _ (fun hg => h1 c u (gate19 hg).1 (gate19 hg).2) (fun _ => ?_) ?_
    · simp only [↓EVP0, EVQ0, EVQ1, EVQ2, EVQ3, EVQ4, EVA, EVK, EVF,EVFT, ↓reduceIte, Nat.reduceEqDiff, Nat.reduceAdd, Nat.reduceSub, Nat.reduceMul, Nat.reduceLT, Nat.reduceLeDiff, reduceCtorEq, Int.reduceToNat, Int.reduceLT, Int.reduceLE, Int.reduceAdd, Int.reduceSub, Int.reduceMul, Int.reduceNeg, Int.reduceEq, Nat.reduceMod, forall_eq_or_imp, forall_eq, forall_const, cond_true, cond_false, decide_true, decide_false, true_imp_iff, implies_true, Int.cast_ofNat_Int, forall_eq']
    simp only [↓EVP0, EVQ0, EVQ1, EVQ2, EVQ3, EVQ4, EVA, EVK, EVF,EVFT, ↓reduceIte, Nat.reduceEqDiff, Nat.reduceAdd, Nat.reduceSub, Nat.reduceMul, Nat.reduceLT, Nat.reduceLeDiff, reduceCtorEq, Int.reduceToNat, Int.reduceLT, Int.reduceLE, Int.reduceAdd, Int.reduceSub, Int.reduceMul, Int.reduceNeg, Int.reduceEq, Nat.reduceMod, forall_eq_or_imp, forall_eq, forall_const, cond_true, cond_false, decide_true, decide_false, true_imp_iff, implies_true, Int.cast_ofNat_Int, forall_eq']
    rw [bad19]
    cases hb : permB p u k c
    · exact ⟨fun _ => hbad hb, fun h => by simp at h⟩
    · exact ⟨fun h => by simp at h, fun _ => ⟨by unfold In64; omega, hk2, (), hnxt hb⟩⟩
  · unfold lb23_1
    simp only [↓EVP0, EVQ0, EVQ1, EVQ2, EVQ3, EVQ4, EVA, EVK, EVF,EVFT, ↓reduceIte, Nat.reduceEqDiff, Nat.reduceAdd, Nat.reduceSub, Nat.reduceMul, Nat.reduceLT, Nat.reduceLeDiff, reduceCtorEq, Int.reduceToNat, Int.reduceLT, Int.reduceLE, Int.reduceAdd, Int.reduceSub, Int.reduceMul, Int.reduceNeg, Int.reduceEq, Nat.reduceMod, forall_eq_or_imp, forall_eq, forall_const, cond_true, cond_false, decide_true, decide_false, true_imp_iff, implies_true, Int.cast_ofNat_Int, forall_eq']
    refine ⟨⟨by omega, by omega⟩, fun _ => ⟨fun hg4 => ?_, fun hg4 => ?_⟩⟩
    · exact hno (by
        have : rowB19 p u (t.getD u ([], [])).2 = false := by
          unfold rowB19
          rw [decide_eq_false (show ¬ (t.getD u ([], [])).2.length = p.ns.length from fun h => by rw [decide_eq_true (show ((t.getD u ([], [])).2.length : Int) = p.ns.length by omega)] at hg4; simp at hg4)]; rfl
        rw [this]; simp)
    have hrn : (t.getD u ([], [])).2.length = p.ns.length := by
      by_cases h : ((t.getD u ([], [])).2.length : Int) = p.ns.length
      · omega
      · rw [decide_eq_false h] at hg4; simp at hg4
    refine lwp_for (α := Unit) p.ns.length (fun k _ => ∀ j, j < k → permB p u (j : Nat) ((t.getD u ([], [])).2.getD j 0) = true) (fun k _ => [(1, .rsl 2 t.length (tabF t)), (2, .ptr 0 0 0 0 0), (5, .sc (.int .i64 p.ns.length)), (6, .sc (.int .i64 u)), (7, .sc (.int .i64 1)), (8, .sc (.int .i64 k))])
      (fun _ _ => [(0, .box [.rsl 3 p.ns.length (ndsF p.ns), .rsl 6 p.cs.length (cbsF p.cs)])]) () (fun j hj => absurd hj (Nat.not_lt_zero _)) ?_ (fun _ _ => Nat.zero_le _) ?_
    · simp only [↓EVP0, EVQ0, EVQ1, EVQ2, EVQ3, EVQ4, EVA, EVK, EVF,EVFT, ↓reduceIte, Nat.reduceEqDiff, Nat.reduceAdd, Nat.reduceSub, Nat.reduceMul, Nat.reduceLT, Nat.reduceLeDiff, reduceCtorEq, Int.reduceToNat, Int.reduceLT, Int.reduceLE, Int.reduceAdd, Int.reduceSub, Int.reduceMul, Int.reduceNeg, Int.reduceEq, Nat.reduceMod, forall_eq_or_imp, forall_eq, forall_const, cond_true, cond_false, decide_true, decide_false, true_imp_iff, implies_true, Int.cast_ofNat_Int, forall_eq']
    intro k _ hk hz
    unfold lb23_0
    simp only [↓EVP0, EVQ0, EVQ1, EVQ2, EVQ3, EVQ4, EVA, EVK, EVF,EVFT, ↓reduceIte, Nat.reduceEqDiff, Nat.reduceAdd, Nat.reduceSub, Nat.reduceMul, Nat.reduceLT, Nat.reduceLeDiff, reduceCtorEq, Int.reduceToNat, Int.reduceLT, Int.reduceLE, Int.reduceAdd, Int.reduceSub, Int.reduceMul, Int.reduceNeg, Int.reduceEq, Nat.reduceMod, forall_eq_or_imp, forall_eq, forall_const, cond_true, cond_false, decide_true, decide_false, true_imp_iff, implies_true, Int.cast_ofNat_Int, forall_eq']
    refine ⟨fun hg5 => ?_, fun hg5 => ?_⟩
    rotate_left
    · have hk2 : k = p.ns.length := by have := of_decide_eq_false hg5; omega
      have hrow : rowB19 p u (t.getD u ([], [])).2 = true := by
        unfold rowB19
        rw [decide_eq_true hrn, rng_yes19 (fun i hi => hz i (by omega))]; rfl
      exact ⟨by unfold In64; omega, (), hph2.1 (by omega), hph2.1 (by omega), hrow⟩
    have hk2 : k < p.ns.length := by have := of_decide_eq_true hg5; omega
    have hbad : permB p u k ((t.getD u ([], [])).2.getD k 0) = false → false = refVT p t := fun hb => hno (by
      have : rowB19 p u (t.getD u ([], [])).2 = false := by
        unfold rowB19
        rw [rng_no19 (show k < (t.getD u ([], [])).2.length by omega) hb, Bool.and_false]
      rw [this]; simp)
    have hnxt : permB p u k ((t.getD u ([], [])).2.getD k 0) = true → ∀ j, j < k + 1 → permB p u (j : Nat) ((t.getD u ([], [])).2.getD j 0) = true := fun h j hj => by
      by_cases e : j = k
      · rw [e]; exact h
      · exact hz j (by omega)
    generalize (t.getD u ([], [])).2.getD k 0 = c at *
    refine ⟨⟨by omega, by omega⟩, ⟨by omega, by omega⟩, ?_⟩
    (refine lops_ge_imp ?_; simp only [↓EVP0, EVQ0, EVQ1, EVQ2, EVQ3, EVQ4, EVA, EVK, EVF,EVFT, ↓reduceIte, Nat.reduceEqDiff, Nat.reduceAdd, Nat.reduceSub, Nat.reduceMul, Nat.reduceLT, Nat.reduceLeDiff, reduceCtorEq, Int.reduceToNat, Int.reduceLT, Int.reduceLE, Int.reduceAdd, Int.reduceSub, Int.reduceMul, Int.reduceNeg, Int.reduceEq, Nat.reduceMod, forall_eq_or_imp, forall_eq, forall_const, cond_true, cond_false, decide_true, decide_false, true_imp_iff, implies_true, Int.cast_ofNat_Int, forall_eq'])
    refine gCallK_ro _ (fun hg => h1 c u (gate19 hg).1 (gate19 hg).2) (fun _ => ?_) ?_
    · simp only [↓EVP0, EVQ0, EVQ1, EVQ2, EVQ3, EVQ4, EVA, EVK, EVF,EVFT, ↓reduceIte, Nat.reduceEqDiff, Nat.reduceAdd, Nat.reduceSub, Nat.reduceMul, Nat.reduceLT, Nat.reduceLeDiff, reduceCtorEq, Int.reduceToNat, Int.reduceLT, Int.reduceLE, Int.reduceAdd, Int.reduceSub, Int.reduceMul, Int.reduceNeg, Int.reduceEq, Nat.reduceMod, forall_eq_or_imp, forall_eq, forall_const, cond_true, cond_false, decide_true, decide_false, true_imp_iff, implies_true, Int.cast_ofNat_Int, forall_eq']
    simp only [↓EVP0, EVQ0, EVQ1, EVQ2, EVQ3, EVQ4, EVA, EVK, EVF,EVFT, ↓reduceIte, Nat.reduceEqDiff, Nat.reduceAdd, Nat.reduceSub, Nat.reduceMul, Nat.reduceLT, Nat.reduceLeDiff, reduceCtorEq, Int.reduceToNat, Int.reduceLT, Int.reduceLE, Int.reduceAdd, Int.reduceSub, Int.reduceMul, Int.reduceNeg, Int.reduceEq, Nat.reduceMod, forall_eq_or_imp, forall_eq, forall_const, cond_true, cond_false, decide_true, decide_false, true_imp_iff, implies_true, Int.cast_ofNat_Int, forall_eq']
    rw [bad19]
    cases hb : permB p u k c
    · exact ⟨fun _ => hbad hb, fun h => by simp at h⟩
    · exact ⟨fun h => by simp at h, fun _ => ⟨by unfold In64; omega, hk2, (), hnxt hb⟩⟩
  · unfold lb23_1
    simp only [↓EVP0, EVQ0, EVQ1, EVQ2, EVQ3, EVQ4, EVA, EVK, EVF,EVFT, ↓reduceIte, Nat.reduceEqDiff, Nat.reduceAdd, Nat.reduceSub, Nat.reduceMul, Nat.reduceLT, Nat.reduceLeDiff, reduceCtorEq, Int.reduceToNat, Int.reduceLT, Int.reduceLE, Int.reduceAdd, Int.reduceSub, Int.reduceMul, Int.reduceNeg, Int.reduceEq, Nat.reduceMod, forall_eq_or_imp, forall_eq, forall_const, cond_true, cond_false, decide_true, decide_false, true_imp_iff, implies_true, Int.cast_ofNat_Int, forall_eq']
    refine ⟨by unfold In64; omega, hu2, (), fun j hj => ?_⟩
    by_cases e : j = u
    · obtain ⟨e1, e2⟩ := hph2.2 (by omega)
      rw [e, e1, e2]; rfl
    · exact hx j (by omega)
end Go.Proofs.YtcdepkflghcjpaaDoor
namespace Go.Proofs.YtcdepkflghcjpaaDoor
set_option linter.unusedSimpArgs false
set_option linter.unusedVariables false
open Go.RowKit
set_option maxRecDepth 20000

def rfOf (B : List Bool) : Rf := fun i c => B.getD (2 * i + if c = true then 1 else 0) false
theorem rfOf_set {B : List Bool} {u : Nat} {b : Bool} (h : 2 * u + (if b = true then 1 else 0) < B.length) : rfOf (B.set (2 * u + if b = true then 1 else 0) true) = rfSet (rfOf B) u b := by
  funext i c
  unfold rfOf rfSet
  by_cases e : i = u ∧ c = b
  · rw [if_pos e, e.1, e.2, List.getD_eq_getElem?_getD, List.getElem?_set_self h]; rfl
  · rw [if_neg e, List.getD_eq_getElem?_getD, List.getElem?_set_ne, ← List.getD_eq_getElem?_getD]
    intro h2
    apply e
    cases b <;> cases c <;> simp at h2 ⊢ <;> omega
theorem rfOf_none (n : Nat) : rfOf (List.replicate n false) = fun _ _ => false := by
  funext i c
  unfold rfOf
  rw [List.getD_eq_getElem?_getD, List.getElem?_replicate]
  by_cases h : (2 * i + if c = true then 1 else 0) < n
  · rw [if_pos h]; rfl
  · rw [if_neg h]; rfl
def folR (p : Pl) (l : List Int) (t : Tb) (x w : Int) : List Int × Int :=
  if nodB p x = true ∧ nodB p w = true then fol p l t w.toNat (rfCnt p.ns.length (fun _ _ => false) + 1) (fun _ _ => false) x.toNat false [] else ([], 2)
theorem ev_refFollow (p : Pl) (hv : validE p = 0) (l : List Int) (t : Tb) (ht : refVT p t = true) (x w : Int) :
    Ev Tryd.prog 25 [plV p, intsV l, .rsl 2 t.length (tabF t), .sc (.int .i64 x), .sc (.int .i64 w)] (.tup [intsV (folR p l t x w).1, .sc (.int .i64 (folR p l t x w).2)]) := by
  have h1 := ev_Other p
  have h2 := ev_Step l
  have h16 := (valid_of hv).n16
  unfold plV intsV at *
  refine ev_fn Tryd.func25 comp25 (show 5 ≤ Tryd.f25.ntmps by decide) ?_; unfold cf25 rf25; simp only [↓EVP0, EVQ0, EVQ1, EVQ2, EVQ3, EVQ4, EVA, EVK, EVF,EVFT, ↓reduceIte, Nat.reduceEqDiff, Nat.reduceAdd, Nat.reduceSub, Nat.reduceMul, Nat.reduceLT, Nat.reduceLeDiff, reduceCtorEq, Int.reduceToNat, Int.reduceLT, Int.reduceLE, Int.reduceAdd, Int.reduceSub, Int.reduceMul, Int.reduceNeg, Int.reduceEq, Nat.reduceMod, forall_eq_or_imp, forall_eq, forall_const, cond_true, cond_false, decide_true, decide_false, true_imp_iff, implies_true, Int.cast_ofNat_Int, forall_eq']
  intro hn63
  refine ⟨fun hg => ?_, fun hg => ?_⟩
  · have e2 : ¬ (nodB p x = true ∧ nodB p w = true) := by
      rintro ⟨a, b⟩
      have a1 := nodB_in a
      have b1 := nodB_in b
      unfold inN at a1 b1
      rw [decide_eq_false (show ¬ x < 0 by omega), decide_eq_false (show ¬ (p.ns.length : Int) ≤ x by omega), decide_eq_false (show ¬ w < 0 by omega), decide_eq_false (show ¬ (p.ns.length : Int) ≤ w by omega)] at hg
      simp at hg
    unfold folR
    rw [if_neg e2]
    exact ⟨rfl, rfl⟩
  have hb : (0 ≤ x ∧ x < p.ns.length) ∧ (0 ≤ w ∧ w < p.ns.length) := by
    have c1 : ¬ x < 0 := fun c => by rw [decide_eq_true c] at hg; simp at hg
    have c3 : ¬ w < 0 := fun c => by rw [decide_eq_true c] at hg; simp at hg
    have c2 : ¬ (p.ns.length : Int) ≤ x := fun c => by rw [decide_eq_true c] at hg; simp at hg
    have c4 : ¬ (p.ns.length : Int) ≤ w := fun c => by rw [decide_eq_true c] at hg; simp at hg
    omega
  have hfr : folR p l t x w = fol p l t w.toNat (rfCnt p.ns.length (fun _ _ => false) + 1) (fun _ _ => false) x.toNat false [] := by
    unfold folR
    rw [if_pos (by unfold nodB; simp [hb.1.1, hb.1.2, hb.2.1, hb.2.2])]
  rw [hfr]
  generalize hR : fol p l t w.toNat (rfCnt p.ns.length (fun _ _ => false) + 1) (fun _ _ => false) x.toNat false [] = R
  refine ⟨by unfold In64; omega, by unfold mksC; omega, ?_⟩
  rw [show (2 * (p.ns.length : Int)).toNat = 2 * p.ns.length by omega]
  refine lwp_loop (α := List Bool × Nat × Bool × List Int × List Int) (fun q => q.1.length = 2 * p.ns.length ∧ q.2.1 < p.ns.length ∧ q.2.2.2.1.length + rfCnt p.ns.length (rfOf q.1) = rfCnt p.ns.length (fun _ _ => false) ∧ (∀ i c, rfOf q.1 i c = true → tabE t i c w.toNat ≠ -2) ∧ fol p l t w.toNat (rfCnt p.ns.length (rfOf q.1) + 1) (rfOf q.1) q.2.1 q.2.2.1 q.2.2.2.1 = R)
    (fun q => if q.2.2.2.1 = [] then [(1, .rsl 1 l.length (intsF l)), (2, .rsl 2 t.length (tabF t)), (4, .sc (.int .i64 w)), (5, .ptr 0 0 0 0 0), (13, .nsl), (14, .sl 1 0 1 0 (2 * p.ns.length)), (15, .sc (.int .i64 q.2.1)), (16, .sc (.int .i64 (if q.2.2.1 = true then 1 else 0)))] else [(1, .rsl 1 l.length (intsF l)), (2, .rsl 2 t.length (tabF t)), (4, .sc (.int .i64 w)), (5, .ptr 0 0 0 0 0), (13, .sl 3 (q.2.2.2.1.length - 1) 1 0 q.2.2.2.1.length), (14, .sl 1 0 1 0 (2 * p.ns.length)), (15, .sc (.int .i64 q.2.1)), (16, .sc (.int .i64 (if q.2.2.1 = true then 1 else 0)))])
    (fun q => if q.2.2.2.1 = [] then [(0, .box [.rsl 3 p.ns.length (ndsF p.ns), .rsl 6 p.cs.length (cbsF p.cs)]), (0, .bools q.1)] else [(0, .box [.rsl 3 p.ns.length (ndsF p.ns), .rsl 6 p.cs.length (cbsF p.cs)]), (0, .bools q.1), (0, .ints q.2.2.2.2), (q.2.2.2.1.length - 1, .ints q.2.2.2.1)])
    (fun q => rfCnt p.ns.length (rfOf q.1)) (List.replicate (2 * p.ns.length) false, x.toNat, false, [], []) ⟨by simp, by simp only; omega, by rw [rfOf_none]; simp, fun i c h => by rw [rfOf_none] at h; simp at h, by rw [rfOf_none]; exact hR⟩ ?_ (fun _ => Nat.zero_le _) ?_
  · simp only [↓EVP0, EVQ0, EVQ1, EVQ2, EVQ3, EVQ4, EVA, EVK, EVF,EVFT, ↓reduceIte, Nat.reduceEqDiff, Nat.reduceAdd, Nat.reduceSub, Nat.reduceMul, Nat.reduceLT, Nat.reduceLeDiff, reduceCtorEq, Int.reduceToNat, Int.reduceLT, Int.reduceLE, Int.reduceAdd, Int.reduceSub, Int.reduceMul, Int.reduceNeg, Int.reduceEq, Nat.reduceMod, forall_eq_or_imp, forall_eq, forall_const, cond_true, cond_false, decide_true, decide_false, true_imp_iff, implies_true, Int.cast_ofNat_Int, forall_eq']
    omega
  rintro ⟨B, y, b, path, X⟩ ⟨i0, i1, i2, i3, i4⟩
  simp only at i0 i1 i2 i3 i4 ⊢
  have hv2 : validT p t = true := by unfold validT; rw [decide_eq_true hv]; exact ht
  have htl : t.length = p.ns.length := by
    unfold refVT at ht
    simp only [Bool.and_eq_true, decide_eq_true_eq] at ht
    exact ht.1
  have hrows : ∀ y, y < p.ns.length → rowB19 p y (t.getD y ([], [])).1 = true ∧ rowB19 p y (t.getD y ([], [])).2 = true := by
    intro y hy
    unfold refVT at ht
    simp only [Bool.and_eq_true, decide_eq_true_eq, List.all_eq_true] at ht
    exact ht.2 y (List.mem_range.2 (by omega))
  have hrow : ∀ y, y < p.ns.length → (t.getD y ([], [])).1.length = p.ns.length ∧ (t.getD y ([], [])).2.length = p.ns.length := by
    intro y hy
    obtain ⟨h3, h4⟩ := hrows y hy
    unfold rowB19 at h3 h4
    simp only [Bool.and_eq_true, decide_eq_true_eq] at h3 h4
    exact ⟨h3.1, h4.1⟩
  have hpe : ∀ y b, y < p.ns.length → permB p (y : Nat) (w.toNat : Nat) (tabE t y b w.toNat) = true := by
    intro y b hy
    obtain ⟨h3, h4⟩ := hrows y hy
    obtain ⟨h5, h6⟩ := hrow y hy
    unfold rowB19 at h3 h4
    simp only [Bool.and_eq_true, decide_eq_true_eq, List.all_eq_true] at h3 h4
    cases b
    · exact h3.2 w.toNat (List.mem_range.2 (by omega))
    · exact h4.2 w.toNat (List.mem_range.2 (by omega))
  have hperm : ∀ y b, y < p.ns.length → (tabE t y b w.toNat ≠ -2 → tabE t y b w.toNat ≠ -1 → 0 ≤ tabE t y b w.toNat ∧ tabE t y b w.toNat < p.cs.length ∧ (acrE (p.cs.getD (tabE t y b w.toNat).toNat default) (y : Int)).2 = true) := by
    intro y b hy n2 n1
    have h7 := hpe y b hy
    unfold permB at h7
    rw [decide_eq_false n2, decide_eq_false n1, Bool.or_false, Bool.and_false, Bool.false_or] at h7
    cases e : decide ((y : Int) = (w.toNat : Nat))
    · rw [e, cond_false] at h7
      simp only [Bool.and_eq_true, decide_eq_true_eq] at h7
      exact h7
    · rw [e, cond_true] at h7; simp at h7
  have hcnt : rfCnt p.ns.length (fun _ _ => false) ≤ 32 := by
    have : ∀ n, rfCnt n (fun _ _ => false) = 2 * n := by
      intro n
      induction n with
      | zero => rfl
      | succ n ih =>
        unfold rfCnt at *
        rw [List.range_succ, List.map_append, List.sum_append, ih]
        simp
        omega
    rw [this]; omega
  rcases Bool.eq_false_or_eq_true b with rfl | rfl <;> rcases path with _ | ⟨a0, path⟩
  · simp only [if_true, if_false, reduceCtorEq, Bool.false_eq_true] at i2 i4 ⊢
    have p1 := hperm y true i1
    have hrl := (hrow y i1).2
    have hte : tabE t y true w.toNat = (t.getD y ([], [])).2.getD w.toNat 0 := rfl
    have hs2 := i3 y true
    unfold fol at i4
    rw [hte] at i4 p1 hs2
    have hBy : B.getD (2 * y + 1) false = rfOf B y true := rfl
    unfold lb25_0
    simp only [↓EVP0, EVQ0, EVQ1, EVQ2, EVQ3, EVQ4, EVA, EVK, EVF,EVFT, ↓reduceIte, Nat.reduceEqDiff, Nat.reduceAdd, Nat.reduceSub, Nat.reduceMul, Nat.reduceLT, Nat.reduceLeDiff, reduceCtorEq, Int.reduceToNat, Int.reduceLT, Int.reduceLE, Int.reduceAdd, Int.reduceSub, Int.reduceMul, Int.reduceNeg, Int.reduceEq, Nat.reduceMod, forall_eq_or_imp, forall_eq, forall_const, cond_true, cond_false, decide_true, decide_false, true_imp_iff, implies_true, Int.cast_ofNat_Int, forall_eq']
    generalize hc : (t.getD y ([], [])).2.getD w.toNat 0 = c at i4 p1 hs2 ⊢
    have hix : (2 * (y : Int) + 1).toNat = 2 * y + (if true = true then 1 else 0) := by simp; try omega
    have hBr : B.getD (2 * (y : Int) + 1).toNat false = rfOf B y true := by rw [hix]; rfl
    have hset : 2 * y + (if true = true then 1 else 0) < B.length := by simp; omega
    rw [hBr, hix]
    refine ⟨⟨by omega, by omega⟩, ⟨by omega, by omega⟩, fun g1 => ?_, fun g1 => ⟨by unfold In64; omega, by unfold In64; omega, ⟨by omega, by omega⟩, hset, fun g2 => ?_, fun g2 => ⟨fun g3 => ?_, fun g3 => ⟨by unfold In64; omega, by unfold In64; omega, ⟨by omega, by omega⟩, hset, by unfold appRoom; omega, ?_⟩⟩⟩⟩
    · have hn : rfOf B y true = false := by
        cases e : rfOf B y true
        · rfl
        · exact absurd (of_decide_eq_true g1) (hs2 e)
      rw [if_neg (by rw [hn]; simp), if_pos (of_decide_eq_true g1)] at i4
      rw [← i4]
      exact ⟨rfl, rfl⟩
    · rw [if_pos g2] at i4
      rw [← i4]; exact ⟨rfl, rfl⟩
    · rw [if_neg (by rw [g2]; simp), if_neg (of_decide_eq_false g1), if_pos (of_decide_eq_true g3)] at i4
      rw [← i4]; exact ⟨rfl, rfl⟩
    rw [if_neg (by rw [g2]; simp), if_neg (of_decide_eq_false g1), if_neg (of_decide_eq_false g3)] at i4
    obtain ⟨c1, c2, c3⟩ := p1 (of_decide_eq_false g1) (of_decide_eq_false g3)
    have hcs := rfCnt_set i1 g2
    have hy := acr_in hv ⟨c1, c2⟩ c3
    have hcab := (valid_of hv).cab _ (cs_mem c1 c2)
    unfold inN at hcab
    have ho := other_acr (c := p.cs.getD c.toNat default) (y : Int) hcab.1.1 hcab.2.1
    rw [if_pos c3] at ho
    have h1' := h1 c y c1 c2
    rw [ho] at h1'
    refine callK_ro (h1') ?_ ?_
    · simp only [↓EVP0, EVQ0, EVQ1, EVQ2, EVQ3, EVQ4, EVA, EVK, EVF,EVFT, ↓reduceIte, Nat.reduceEqDiff, Nat.reduceAdd, Nat.reduceSub, Nat.reduceMul, Nat.reduceLT, Nat.reduceLeDiff, reduceCtorEq, Int.reduceToNat, Int.reduceLT, Int.reduceLE, Int.reduceAdd, Int.reduceSub, Int.reduceMul, Int.reduceNeg, Int.reduceEq, Nat.reduceMod, forall_eq_or_imp, forall_eq, forall_const, cond_true, cond_false, decide_true, decide_false, true_imp_iff, implies_true, Int.cast_ofNat_Int, forall_eq']
    simp only [↓EVP0, EVQ0, EVQ1, EVQ2, EVQ3, EVQ4, EVA, EVK, EVF,EVFT, ↓reduceIte, Nat.reduceEqDiff, Nat.reduceAdd, Nat.reduceSub, Nat.reduceMul, Nat.reduceLT, Nat.reduceLeDiff, reduceCtorEq, Int.reduceToNat, Int.reduceLT, Int.reduceLE, Int.reduceAdd, Int.reduceSub, Int.reduceMul, Int.reduceNeg, Int.reduceEq, Nat.reduceMod, forall_eq_or_imp, forall_eq, forall_const, cond_true, cond_false, decide_true, decide_false, true_imp_iff, implies_true, Int.cast_ofNat_Int, forall_eq']
    generalize (acrE (p.cs.getD c.toNat default) y).1 = z at hy i4 ⊢
    obtain ⟨zn, rfl⟩ : ∃ zn : Nat, z = (zn : Int) := ⟨z.toNat, by unfold inN at hy; omega⟩
    have hzn : zn < p.ns.length := by unfold inN at hy; omega
    have hrs : rfOf (B.set (2 * y + 1) true) = rfSet (rfOf B) y true := rfOf_set (b := true) hset
    have hcE : tabE t y true w.toNat = c := hte.trans hc
    have hseen : ∀ i c', rfOf (B.set (2 * y + 1) true) i c' = true → tabE t i c' w.toNat ≠ -2 := by
      intro i c' h
      rw [hrs] at h
      unfold rfSet at h
      by_cases e : i = y ∧ c' = true
      · rw [e.1, e.2, hcE]; exact of_decide_eq_false g1
      · rw [if_neg e] at h; exact i3 i c' h
    have hne0 : ¬ (([] : List Int) ++ [c] = []) := by simp
    have hlen2 : (([] : List Int) ++ [c]).length + rfCnt p.ns.length (rfOf (B.set (2 * y + 1) true)) = rfCnt p.ns.length fun _ _ => false := by
      rw [hrs, List.length_append, List.length_singleton]; omega
    have hpos : rfCnt p.ns.length (rfOf (B.set (2 * y + 1) true)) < rfCnt p.ns.length (rfOf B) := by rw [hrs]; omega
    rw [← hrs] at i4
    have hcs2 : rfCnt p.ns.length (rfOf (B.set (2 * y + 1) true)) + 1 = rfCnt p.ns.length (rfOf B) := by rw [hrs]; exact hcs
    rw [← hcs2, Int.toNat_natCast] at i4
    (refine lops_ge_imp ?_; simp only [↓EVP0, EVQ0, EVQ1, EVQ2, EVQ3, EVQ4, EVA, EVK, EVF,EVFT, ↓reduceIte, Nat.reduceEqDiff, Nat.reduceAdd, Nat.reduceSub, Nat.reduceMul, Nat.reduceLT, Nat.reduceLeDiff, reduceCtorEq, Int.reduceToNat, Int.reduceLT, Int.reduceLE, Int.reduceAdd, Int.reduceSub, Int.reduceMul, Int.reduceNeg, Int.reduceEq, Nat.reduceMod, forall_eq_or_imp, forall_eq, forall_const, cond_true, cond_false, decide_true, decide_false, true_imp_iff, implies_true, Int.cast_ofNat_Int, forall_eq'])
    refine gCallK_ro _ (fun _ => h2 y zn) (fun _ => ?_) ?_
    · simp only [↓EVP0, EVQ0, EVQ1, EVQ2, EVQ3, EVQ4, EVA, EVK, EVF,EVFT, ↓reduceIte, Nat.reduceEqDiff, Nat.reduceAdd, Nat.reduceSub, Nat.reduceMul, Nat.reduceLT, Nat.reduceLeDiff, reduceCtorEq, Int.reduceToNat, Int.reduceLT, Int.reduceLE, Int.reduceAdd, Int.reduceSub, Int.reduceMul, Int.reduceNeg, Int.reduceEq, Nat.reduceMod, forall_eq_or_imp, forall_eq, forall_const, cond_true, cond_false, decide_true, decide_false, true_imp_iff, implies_true, Int.cast_ofNat_Int, forall_eq']
    simp only [↓EVP0, EVQ0, EVQ1, EVQ2, EVQ3, EVQ4, EVA, EVK, EVF,EVFT, ↓reduceIte, Nat.reduceEqDiff, Nat.reduceAdd, Nat.reduceSub, Nat.reduceMul, Nat.reduceLT, Nat.reduceLeDiff, reduceCtorEq, Int.reduceToNat, Int.reduceLT, Int.reduceLE, Int.reduceAdd, Int.reduceSub, Int.reduceMul, Int.reduceNeg, Int.reduceEq, Nat.reduceMod, forall_eq_or_imp, forall_eq, forall_const, cond_true, cond_false, decide_true, decide_false, true_imp_iff, implies_true, Int.cast_ofNat_Int, forall_eq']
    rw [Bool.true_or] at i4
    refine ⟨(B.set (2 * y + 1) true, zn, true, ([] : List Int) ++ [c], [c]), ⟨by rw [List.length_set]; exact i0, hzn, hlen2, hseen, i4⟩, ?_, hpos⟩
    simp only [hne0, if_false]
    simp only [↓EVP0, EVQ0, EVQ1, EVQ2, EVQ3, EVQ4, EVA, EVK, EVF,EVFT, ↓reduceIte, Nat.reduceEqDiff, Nat.reduceAdd, Nat.reduceSub, Nat.reduceMul, Nat.reduceLT, Nat.reduceLeDiff, reduceCtorEq, Int.reduceToNat, Int.reduceLT, Int.reduceLE, Int.reduceAdd, Int.reduceSub, Int.reduceMul, Int.reduceNeg, Int.reduceEq, Nat.reduceMod, forall_eq_or_imp, forall_eq, forall_const, cond_true, cond_false, decide_true, decide_false, true_imp_iff, implies_true, Int.cast_ofNat_Int, forall_eq']
  · simp only [List.cons_ne_nil, if_true, if_false, reduceCtorEq, Bool.false_eq_true] at i2 i4 ⊢
    have p1 := hperm y true i1
    have hrl := (hrow y i1).2
    have hte : tabE t y true w.toNat = (t.getD y ([], [])).2.getD w.toNat 0 := rfl
    have hs2 := i3 y true
    unfold fol at i4
    rw [hte] at i4 p1 hs2
    have hBy : B.getD (2 * y + 1) false = rfOf B y true := rfl
    unfold lb25_0
    simp only [↓EVP0, EVQ0, EVQ1, EVQ2, EVQ3, EVQ4, EVA, EVK, EVF,EVFT, ↓reduceIte, Nat.reduceEqDiff, Nat.reduceAdd, Nat.reduceSub, Nat.reduceMul, Nat.reduceLT, Nat.reduceLeDiff, reduceCtorEq, Int.reduceToNat, Int.reduceLT, Int.reduceLE, Int.reduceAdd, Int.reduceSub, Int.reduceMul, Int.reduceNeg, Int.reduceEq, Nat.reduceMod, forall_eq_or_imp, forall_eq, forall_const, cond_true, cond_false, decide_true, decide_false, true_imp_iff, implies_true, Int.cast_ofNat_Int, forall_eq']
    generalize hc : (t.getD y ([], [])).2.getD w.toNat 0 = c at i4 p1 hs2 ⊢
    have hix : (2 * (y : Int) + 1).toNat = 2 * y + (if true = true then 1 else 0) := by simp; try omega
    have hBr : B.getD (2 * (y : Int) + 1).toNat false = rfOf B y true := by rw [hix]; rfl
    have hset : 2 * y + (if true = true then 1 else 0) < B.length := by simp; omega
    rw [hBr, hix]
    refine ⟨⟨by omega, by omega⟩, ⟨by omega, by omega⟩, fun g1 => ?_, fun g1 => ⟨by unfold In64; omega, by unfold In64; omega, ⟨by omega, by omega⟩, hset, fun g2 => ?_, fun g2 => ⟨fun g3 => ?_, fun g3 => ⟨by unfold In64; omega, by unfold In64; omega, ⟨by omega, by omega⟩, hset, Nat.le_refl _, by unfold appRoom; simp only [List.length_cons] at i2; omega, ?_⟩⟩⟩⟩
    · have hn : rfOf B y true = false := by
        cases e : rfOf B y true
        · rfl
        · exact absurd (of_decide_eq_true g1) (hs2 e)
      rw [if_neg (by rw [hn]; simp), if_pos (of_decide_eq_true g1)] at i4
      rw [← i4]
      exact ⟨⟨rfl, Nat.le_refl _, fun i _ => rfl⟩, rfl⟩
    · rw [if_pos g2] at i4
      rw [← i4]; exact ⟨rfl, rfl⟩
    · rw [if_neg (by rw [g2]; simp), if_neg (of_decide_eq_false g1), if_pos (of_decide_eq_true g3)] at i4
      rw [← i4]; exact ⟨rfl, rfl⟩
    rw [if_neg (by rw [g2]; simp), if_neg (of_decide_eq_false g1), if_neg (of_decide_eq_false g3)] at i4
    obtain ⟨c1, c2, c3⟩ := p1 (of_decide_eq_false g1) (of_decide_eq_false g3)
    have hcs := rfCnt_set i1 g2
    have hy := acr_in hv ⟨c1, c2⟩ c3
    have hcab := (valid_of hv).cab _ (cs_mem c1 c2)
    unfold inN at hcab
    have ho := other_acr (c := p.cs.getD c.toNat default) (y : Int) hcab.1.1 hcab.2.1
    rw [if_pos c3] at ho
    have h1' := h1 c y c1 c2
    rw [ho] at h1'
    refine callK_ro (h1') ?_ ?_
    · simp only [↓EVP0, EVQ0, EVQ1, EVQ2, EVQ3, EVQ4, EVA, EVK, EVF,EVFT, ↓reduceIte, Nat.reduceEqDiff, Nat.reduceAdd, Nat.reduceSub, Nat.reduceMul, Nat.reduceLT, Nat.reduceLeDiff, reduceCtorEq, Int.reduceToNat, Int.reduceLT, Int.reduceLE, Int.reduceAdd, Int.reduceSub, Int.reduceMul, Int.reduceNeg, Int.reduceEq, Nat.reduceMod, forall_eq_or_imp, forall_eq, forall_const, cond_true, cond_false, decide_true, decide_false, true_imp_iff, implies_true, Int.cast_ofNat_Int, forall_eq']
    simp only [↓EVP0, EVQ0, EVQ1, EVQ2, EVQ3, EVQ4, EVA, EVK, EVF,EVFT, ↓reduceIte, Nat.reduceEqDiff, Nat.reduceAdd, Nat.reduceSub, Nat.reduceMul, Nat.reduceLT, Nat.reduceLeDiff, reduceCtorEq, Int.reduceToNat, Int.reduceLT, Int.reduceLE, Int.reduceAdd, Int.reduceSub, Int.reduceMul, Int.reduceNeg, Int.reduceEq, Nat.reduceMod, forall_eq_or_imp, forall_eq, forall_const, cond_true, cond_false, decide_true, decide_false, true_imp_iff, implies_true, Int.cast_ofNat_Int, forall_eq']
    generalize (acrE (p.cs.getD c.toNat default) y).1 = z at hy i4 ⊢
    obtain ⟨zn, rfl⟩ : ∃ zn : Nat, z = (zn : Int) := ⟨z.toNat, by unfold inN at hy; omega⟩
    have hzn : zn < p.ns.length := by unfold inN at hy; omega
    have hrs : rfOf (B.set (2 * y + 1) true) = rfSet (rfOf B) y true := rfOf_set (b := true) hset
    have hcE : tabE t y true w.toNat = c := hte.trans hc
    have hseen : ∀ i c', rfOf (B.set (2 * y + 1) true) i c' = true → tabE t i c' w.toNat ≠ -2 := by
      intro i c' h
      rw [hrs] at h
      unfold rfSet at h
      by_cases e : i = y ∧ c' = true
      · rw [e.1, e.2, hcE]; exact of_decide_eq_false g1
      · rw [if_neg e] at h; exact i3 i c' h
    have hne0 : ¬ ((a0 :: path) ++ [c] = []) := by simp
    have hlen2 : ((a0 :: path) ++ [c]).length + rfCnt p.ns.length (rfOf (B.set (2 * y + 1) true)) = rfCnt p.ns.length fun _ _ => false := by
      rw [hrs, List.length_append, List.length_singleton]; omega
    have hpos : rfCnt p.ns.length (rfOf (B.set (2 * y + 1) true)) < rfCnt p.ns.length (rfOf B) := by rw [hrs]; omega
    rw [← hrs] at i4
    have hcs2 : rfCnt p.ns.length (rfOf (B.set (2 * y + 1) true)) + 1 = rfCnt p.ns.length (rfOf B) := by rw [hrs]; exact hcs
    rw [← hcs2, Int.toNat_natCast] at i4
    (refine lops_ge_imp ?_; simp only [↓EVP0, EVQ0, EVQ1, EVQ2, EVQ3, EVQ4, EVA, EVK, EVF,EVFT, ↓reduceIte, Nat.reduceEqDiff, Nat.reduceAdd, Nat.reduceSub, Nat.reduceMul, Nat.reduceLT, Nat.reduceLeDiff, reduceCtorEq, Int.reduceToNat, Int.reduceLT, Int.reduceLE, Int.reduceAdd, Int.reduceSub, Int.reduceMul, Int.reduceNeg, Int.reduceEq, Nat.reduceMod, forall_eq_or_imp, forall_eq, forall_const, cond_true, cond_false, decide_true, decide_false, true_imp_iff, implies_true, Int.cast_ofNat_Int, forall_eq'])
    refine gCallK_ro _ (fun _ => h2 y zn) (fun _ => ?_) ?_
    · simp only [↓EVP0, EVQ0, EVQ1, EVQ2, EVQ3, EVQ4, EVA, EVK, EVF,EVFT, ↓reduceIte, Nat.reduceEqDiff, Nat.reduceAdd, Nat.reduceSub, Nat.reduceMul, Nat.reduceLT, Nat.reduceLeDiff, reduceCtorEq, Int.reduceToNat, Int.reduceLT, Int.reduceLE, Int.reduceAdd, Int.reduceSub, Int.reduceMul, Int.reduceNeg, Int.reduceEq, Nat.reduceMod, forall_eq_or_imp, forall_eq, forall_const, cond_true, cond_false, decide_true, decide_false, true_imp_iff, implies_true, Int.cast_ofNat_Int, forall_eq']
    simp only [↓EVP0, EVQ0, EVQ1, EVQ2, EVQ3, EVQ4, EVA, EVK, EVF,EVFT, ↓reduceIte, Nat.reduceEqDiff, Nat.reduceAdd, Nat.reduceSub, Nat.reduceMul, Nat.reduceLT, Nat.reduceLeDiff, reduceCtorEq, Int.reduceToNat, Int.reduceLT, Int.reduceLE, Int.reduceAdd, Int.reduceSub, Int.reduceMul, Int.reduceNeg, Int.reduceEq, Nat.reduceMod, forall_eq_or_imp, forall_eq, forall_const, cond_true, cond_false, decide_true, decide_false, true_imp_iff, implies_true, Int.cast_ofNat_Int, forall_eq']
    rw [Bool.true_or] at i4
    refine ⟨(B.set (2 * y + 1) true, zn, true, (a0 :: path) ++ [c], X), ⟨by rw [List.length_set]; exact i0, hzn, hlen2, hseen, i4⟩, ?_, hpos⟩
    simp only [hne0, if_false]
    simp only [↓EVP0, EVQ0, EVQ1, EVQ2, EVQ3, EVQ4, EVA, EVK, EVF,EVFT, ↓reduceIte, Nat.reduceEqDiff, Nat.reduceAdd, Nat.reduceSub, Nat.reduceMul, Nat.reduceLT, Nat.reduceLeDiff, reduceCtorEq, Int.reduceToNat, Int.reduceLT, Int.reduceLE, Int.reduceAdd, Int.reduceSub, Int.reduceMul, Int.reduceNeg, Int.reduceEq, Nat.reduceMod, forall_eq_or_imp, forall_eq, forall_const, cond_true, cond_false, decide_true, decide_false, true_imp_iff, implies_true, Int.cast_ofNat_Int, forall_eq']
    have hal2 : (path ++ [c]).length = path.length + 1 := by simp
    exact ⟨by rw [hal2]; rfl, by omega, by rw [List.take_of_length_le (Nat.le_refl _)]⟩
  · simp only [if_true, if_false, reduceCtorEq, Bool.false_eq_true] at i2 i4 ⊢
    have p1 := hperm y false i1
    have hrl := (hrow y i1).1
    have hte : tabE t y false w.toNat = (t.getD y ([], [])).1.getD w.toNat 0 := rfl
    have hs2 := i3 y false
    unfold fol at i4
    rw [hte] at i4 p1 hs2
    have hBy : B.getD (2 * y) false = rfOf B y false := rfl
    unfold lb25_0
    simp only [↓EVP0, EVQ0, EVQ1, EVQ2, EVQ3, EVQ4, EVA, EVK, EVF,EVFT, ↓reduceIte, Nat.reduceEqDiff, Nat.reduceAdd, Nat.reduceSub, Nat.reduceMul, Nat.reduceLT, Nat.reduceLeDiff, reduceCtorEq, Int.reduceToNat, Int.reduceLT, Int.reduceLE, Int.reduceAdd, Int.reduceSub, Int.reduceMul, Int.reduceNeg, Int.reduceEq, Nat.reduceMod, forall_eq_or_imp, forall_eq, forall_const, cond_true, cond_false, decide_true, decide_false, true_imp_iff, implies_true, Int.cast_ofNat_Int, forall_eq']
    generalize hc : (t.getD y ([], [])).1.getD w.toNat 0 = c at i4 p1 hs2 ⊢
    have hix : (2 * (y : Int) + 0).toNat = 2 * y + (if false = true then 1 else 0) := by simp; try omega
    have hBr : B.getD (2 * (y : Int) + 0).toNat false = rfOf B y false := by rw [hix]; rfl
    have hset : 2 * y + (if false = true then 1 else 0) < B.length := by simp; omega
    rw [hBr, hix]
    refine ⟨⟨by omega, by omega⟩, ⟨by omega, by omega⟩, fun g1 => ?_, fun g1 => ⟨by unfold In64; omega, by unfold In64; omega, ⟨by omega, by omega⟩, hset, fun g2 => ?_, fun g2 => ⟨fun g3 => ?_, fun g3 => ⟨by unfold In64; omega, by unfold In64; omega, ⟨by omega, by omega⟩, hset, by unfold appRoom; omega, ?_⟩⟩⟩⟩
    · have hn : rfOf B y false = false := by
        cases e : rfOf B y false
        · rfl
        · exact absurd (of_decide_eq_true g1) (hs2 e)
      rw [if_neg (by rw [hn]; simp), if_pos (of_decide_eq_true g1)] at i4
      rw [← i4]
      exact ⟨rfl, rfl⟩
    · rw [if_pos g2] at i4
      rw [← i4]; exact ⟨rfl, rfl⟩
    · rw [if_neg (by rw [g2]; simp), if_neg (of_decide_eq_false g1), if_pos (of_decide_eq_true g3)] at i4
      rw [← i4]; exact ⟨rfl, rfl⟩
    rw [if_neg (by rw [g2]; simp), if_neg (of_decide_eq_false g1), if_neg (of_decide_eq_false g3)] at i4
    obtain ⟨c1, c2, c3⟩ := p1 (of_decide_eq_false g1) (of_decide_eq_false g3)
    have hcs := rfCnt_set i1 g2
    have hy := acr_in hv ⟨c1, c2⟩ c3
    have hcab := (valid_of hv).cab _ (cs_mem c1 c2)
    unfold inN at hcab
    have ho := other_acr (c := p.cs.getD c.toNat default) (y : Int) hcab.1.1 hcab.2.1
    rw [if_pos c3] at ho
    have h1' := h1 c y c1 c2
    rw [ho] at h1'
    refine callK_ro (h1') ?_ ?_
    · simp only [↓EVP0, EVQ0, EVQ1, EVQ2, EVQ3, EVQ4, EVA, EVK, EVF,EVFT, ↓reduceIte, Nat.reduceEqDiff, Nat.reduceAdd, Nat.reduceSub, Nat.reduceMul, Nat.reduceLT, Nat.reduceLeDiff, reduceCtorEq, Int.reduceToNat, Int.reduceLT, Int.reduceLE, Int.reduceAdd, Int.reduceSub, Int.reduceMul, Int.reduceNeg, Int.reduceEq, Nat.reduceMod, forall_eq_or_imp, forall_eq, forall_const, cond_true, cond_false, decide_true, decide_false, true_imp_iff, implies_true, Int.cast_ofNat_Int, forall_eq']
    simp only [↓EVP0, EVQ0, EVQ1, EVQ2, EVQ3, EVQ4, EVA, EVK, EVF,EVFT, ↓reduceIte, Nat.reduceEqDiff, Nat.reduceAdd, Nat.reduceSub, Nat.reduceMul, Nat.reduceLT, Nat.reduceLeDiff, reduceCtorEq, Int.reduceToNat, Int.reduceLT, Int.reduceLE, Int.reduceAdd, Int.reduceSub, Int.reduceMul, Int.reduceNeg, Int.reduceEq, Nat.reduceMod, forall_eq_or_imp, forall_eq, forall_const, cond_true, cond_false, decide_true, decide_false, true_imp_iff, implies_true, Int.cast_ofNat_Int, forall_eq']
    generalize (acrE (p.cs.getD c.toNat default) y).1 = z at hy i4 ⊢
    obtain ⟨zn, rfl⟩ : ∃ zn : Nat, z = (zn : Int) := ⟨z.toNat, by unfold inN at hy; omega⟩
    have hzn : zn < p.ns.length := by unfold inN at hy; omega
    have hrs : rfOf (B.set (2 * y) true) = rfSet (rfOf B) y false := rfOf_set (b := false) hset
    have hcE : tabE t y false w.toNat = c := hte.trans hc
    have hseen : ∀ i c', rfOf (B.set (2 * y) true) i c' = true → tabE t i c' w.toNat ≠ -2 := by
      intro i c' h
      rw [hrs] at h
      unfold rfSet at h
      by_cases e : i = y ∧ c' = false
      · rw [e.1, e.2, hcE]; exact of_decide_eq_false g1
      · rw [if_neg e] at h; exact i3 i c' h
    have hne0 : ¬ (([] : List Int) ++ [c] = []) := by simp
    have hlen2 : (([] : List Int) ++ [c]).length + rfCnt p.ns.length (rfOf (B.set (2 * y) true)) = rfCnt p.ns.length fun _ _ => false := by
      rw [hrs, List.length_append, List.length_singleton]; omega
    have hpos : rfCnt p.ns.length (rfOf (B.set (2 * y) true)) < rfCnt p.ns.length (rfOf B) := by rw [hrs]; omega
    rw [← hrs] at i4
    have hcs2 : rfCnt p.ns.length (rfOf (B.set (2 * y) true)) + 1 = rfCnt p.ns.length (rfOf B) := by rw [hrs]; exact hcs
    rw [← hcs2, Int.toNat_natCast] at i4
    (refine lops_ge_imp ?_; simp only [↓EVP0, EVQ0, EVQ1, EVQ2, EVQ3, EVQ4, EVA, EVK, EVF,EVFT, ↓reduceIte, Nat.reduceEqDiff, Nat.reduceAdd, Nat.reduceSub, Nat.reduceMul, Nat.reduceLT, Nat.reduceLeDiff, reduceCtorEq, Int.reduceToNat, Int.reduceLT, Int.reduceLE, Int.reduceAdd, Int.reduceSub, Int.reduceMul, Int.reduceNeg, Int.reduceEq, Nat.reduceMod, forall_eq_or_imp, forall_eq, forall_const, cond_true, cond_false, decide_true, decide_false, true_imp_iff, implies_true, Int.cast_ofNat_Int, forall_eq'])
    refine gCallK_ro _ (fun _ => h2 y zn) (fun _ => ?_) ?_
    · simp only [↓EVP0, EVQ0, EVQ1, EVQ2, EVQ3, EVQ4, EVA, EVK, EVF,EVFT, ↓reduceIte, Nat.reduceEqDiff, Nat.reduceAdd, Nat.reduceSub, Nat.reduceMul, Nat.reduceLT, Nat.reduceLeDiff, reduceCtorEq, Int.reduceToNat, Int.reduceLT, Int.reduceLE, Int.reduceAdd, Int.reduceSub, Int.reduceMul, Int.reduceNeg, Int.reduceEq, Nat.reduceMod, forall_eq_or_imp, forall_eq, forall_const, cond_true, cond_false, decide_true, decide_false, true_imp_iff, implies_true, Int.cast_ofNat_Int, forall_eq']
    simp only [↓EVP0, EVQ0, EVQ1, EVQ2, EVQ3, EVQ4, EVA, EVK, EVF,EVFT, ↓reduceIte, Nat.reduceEqDiff, Nat.reduceAdd, Nat.reduceSub, Nat.reduceMul, Nat.reduceLT, Nat.reduceLeDiff, reduceCtorEq, Int.reduceToNat, Int.reduceLT, Int.reduceLE, Int.reduceAdd, Int.reduceSub, Int.reduceMul, Int.reduceNeg, Int.reduceEq, Nat.reduceMod, forall_eq_or_imp, forall_eq, forall_const, cond_true, cond_false, decide_true, decide_false, true_imp_iff, implies_true, Int.cast_ofNat_Int, forall_eq']
    refine ⟨fun hg4 => ?_, fun hg4 => ?_⟩
    · have ha : aboveB l zn y = false := by
        cases e : aboveB l zn y
        · rfl
        · rw [decide_eq_true (stp1.2 e)] at hg4; simp at hg4
      rw [ha, Bool.false_or, Bool.not_false] at i4
      refine ⟨(B.set (2 * y) true, zn, true, ([] : List Int) ++ [c], [c]), ⟨by rw [List.length_set]; exact i0, hzn, hlen2, hseen, i4⟩, ?_, hpos⟩
      simp only [hne0, if_false]
      simp only [↓EVP0, EVQ0, EVQ1, EVQ2, EVQ3, EVQ4, EVA, EVK, EVF,EVFT, ↓reduceIte, Nat.reduceEqDiff, Nat.reduceAdd, Nat.reduceSub, Nat.reduceMul, Nat.reduceLT, Nat.reduceLeDiff, reduceCtorEq, Int.reduceToNat, Int.reduceLT, Int.reduceLE, Int.reduceAdd, Int.reduceSub, Int.reduceMul, Int.reduceNeg, Int.reduceEq, Nat.reduceMod, forall_eq_or_imp, forall_eq, forall_const, cond_true, cond_false, decide_true, decide_false, true_imp_iff, implies_true, Int.cast_ofNat_Int, forall_eq']
    · have ha : aboveB l zn y = true := by
        cases e : aboveB l zn y
        · have hs1 : ¬ stpE l y zn = 1 := fun h => by rw [stp1, e] at h; simp at h
          rw [decide_eq_false hs1] at hg4; simp at hg4
        · rfl
      rw [ha, Bool.false_or, Bool.not_true] at i4
      refine ⟨(B.set (2 * y) true, zn, false, ([] : List Int) ++ [c], [c]), ⟨by rw [List.length_set]; exact i0, hzn, hlen2, hseen, i4⟩, ?_, hpos⟩
      simp only [hne0, if_false]
      simp only [↓EVP0, EVQ0, EVQ1, EVQ2, EVQ3, EVQ4, EVA, EVK, EVF,EVFT, ↓reduceIte, Nat.reduceEqDiff, Nat.reduceAdd, Nat.reduceSub, Nat.reduceMul, Nat.reduceLT, Nat.reduceLeDiff, reduceCtorEq, Int.reduceToNat, Int.reduceLT, Int.reduceLE, Int.reduceAdd, Int.reduceSub, Int.reduceMul, Int.reduceNeg, Int.reduceEq, Nat.reduceMod, forall_eq_or_imp, forall_eq, forall_const, cond_true, cond_false, decide_true, decide_false, true_imp_iff, implies_true, Int.cast_ofNat_Int, forall_eq']
  · simp only [List.cons_ne_nil, if_true, if_false, reduceCtorEq, Bool.false_eq_true] at i2 i4 ⊢
    have p1 := hperm y false i1
    have hrl := (hrow y i1).1
    have hte : tabE t y false w.toNat = (t.getD y ([], [])).1.getD w.toNat 0 := rfl
    have hs2 := i3 y false
    unfold fol at i4
    rw [hte] at i4 p1 hs2
    have hBy : B.getD (2 * y) false = rfOf B y false := rfl
    unfold lb25_0
    simp only [↓EVP0, EVQ0, EVQ1, EVQ2, EVQ3, EVQ4, EVA, EVK, EVF,EVFT, ↓reduceIte, Nat.reduceEqDiff, Nat.reduceAdd, Nat.reduceSub, Nat.reduceMul, Nat.reduceLT, Nat.reduceLeDiff, reduceCtorEq, Int.reduceToNat, Int.reduceLT, Int.reduceLE, Int.reduceAdd, Int.reduceSub, Int.reduceMul, Int.reduceNeg, Int.reduceEq, Nat.reduceMod, forall_eq_or_imp, forall_eq, forall_const, cond_true, cond_false, decide_true, decide_false, true_imp_iff, implies_true, Int.cast_ofNat_Int, forall_eq']
    generalize hc : (t.getD y ([], [])).1.getD w.toNat 0 = c at i4 p1 hs2 ⊢
    have hix : (2 * (y : Int) + 0).toNat = 2 * y + (if false = true then 1 else 0) := by simp; try omega
    have hBr : B.getD (2 * (y : Int) + 0).toNat false = rfOf B y false := by rw [hix]; rfl
    have hset : 2 * y + (if false = true then 1 else 0) < B.length := by simp; omega
    rw [hBr, hix]
    refine ⟨⟨by omega, by omega⟩, ⟨by omega, by omega⟩, fun g1 => ?_, fun g1 => ⟨by unfold In64; omega, by unfold In64; omega, ⟨by omega, by omega⟩, hset, fun g2 => ?_, fun g2 => ⟨fun g3 => ?_, fun g3 => ⟨by unfold In64; omega, by unfold In64; omega, ⟨by omega, by omega⟩, hset, Nat.le_refl _, by unfold appRoom; simp only [List.length_cons] at i2; omega, ?_⟩⟩⟩⟩
    · have hn : rfOf B y false = false := by
        cases e : rfOf B y false
        · rfl
        · exact absurd (of_decide_eq_true g1) (hs2 e)
      rw [if_neg (by rw [hn]; simp), if_pos (of_decide_eq_true g1)] at i4
      rw [← i4]
      exact ⟨⟨rfl, Nat.le_refl _, fun i _ => rfl⟩, rfl⟩
    · rw [if_pos g2] at i4
      rw [← i4]; exact ⟨rfl, rfl⟩
    · rw [if_neg (by rw [g2]; simp), if_neg (of_decide_eq_false g1), if_pos (of_decide_eq_true g3)] at i4
      rw [← i4]; exact ⟨rfl, rfl⟩
    rw [if_neg (by rw [g2]; simp), if_neg (of_decide_eq_false g1), if_neg (of_decide_eq_false g3)] at i4
    obtain ⟨c1, c2, c3⟩ := p1 (of_decide_eq_false g1) (of_decide_eq_false g3)
    have hcs := rfCnt_set i1 g2
    have hy := acr_in hv ⟨c1, c2⟩ c3
    have hcab := (valid_of hv).cab _ (cs_mem c1 c2)
    unfold inN at hcab
    have ho := other_acr (c := p.cs.getD c.toNat default) (y : Int) hcab.1.1 hcab.2.1
    rw [if_pos c3] at ho
    have h1' := h1 c y c1 c2
    rw [ho] at h1'
    refine callK_ro (h1') ?_ ?_
    · simp only [↓EVP0, EVQ0, EVQ1, EVQ2, EVQ3, EVQ4, EVA, EVK, EVF,EVFT, ↓reduceIte, Nat.reduceEqDiff, Nat.reduceAdd, Nat.reduceSub, Nat.reduceMul, Nat.reduceLT, Nat.reduceLeDiff, reduceCtorEq, Int.reduceToNat, Int.reduceLT, Int.reduceLE, Int.reduceAdd, Int.reduceSub, Int.reduceMul, Int.reduceNeg, Int.reduceEq, Nat.reduceMod, forall_eq_or_imp, forall_eq, forall_const, cond_true, cond_false, decide_true, decide_false, true_imp_iff, implies_true, Int.cast_ofNat_Int, forall_eq']
    simp only [↓EVP0, EVQ0, EVQ1, EVQ2, EVQ3, EVQ4, EVA, EVK, EVF,EVFT, ↓reduceIte, Nat.reduceEqDiff, Nat.reduceAdd, Nat.reduceSub, Nat.reduceMul, Nat.reduceLT, Nat.reduceLeDiff, reduceCtorEq, Int.reduceToNat, Int.reduceLT, Int.reduceLE, Int.reduceAdd, Int.reduceSub, Int.reduceMul, Int.reduceNeg, Int.reduceEq, Nat.reduceMod, forall_eq_or_imp, forall_eq, forall_const, cond_true, cond_false, decide_true, decide_false, true_imp_iff, implies_true, Int.cast_ofNat_Int, forall_eq']
    generalize (acrE (p.cs.getD c.toNat default) y).1 = z at hy i4 ⊢
    obtain ⟨zn, rfl⟩ : ∃ zn : Nat, z = (zn : Int) := ⟨z.toNat, by unfold inN at hy; omega⟩
    have hzn : zn < p.ns.length := by unfold inN at hy; omega
    have hrs : rfOf (B.set (2 * y) true) = rfSet (rfOf B) y false := rfOf_set (b := false) hset
    have hcE : tabE t y false w.toNat = c := hte.trans hc
    have hseen : ∀ i c', rfOf (B.set (2 * y) true) i c' = true → tabE t i c' w.toNat ≠ -2 := by
      intro i c' h
      rw [hrs] at h
      unfold rfSet at h
      by_cases e : i = y ∧ c' = false
      · rw [e.1, e.2, hcE]; exact of_decide_eq_false g1
      · rw [if_neg e] at h; exact i3 i c' h
    have hne0 : ¬ ((a0 :: path) ++ [c] = []) := by simp
    have hlen2 : ((a0 :: path) ++ [c]).length + rfCnt p.ns.length (rfOf (B.set (2 * y) true)) = rfCnt p.ns.length fun _ _ => false := by
      rw [hrs, List.length_append, List.length_singleton]; omega
    have hpos : rfCnt p.ns.length (rfOf (B.set (2 * y) true)) < rfCnt p.ns.length (rfOf B) := by rw [hrs]; omega
    rw [← hrs] at i4
    have hcs2 : rfCnt p.ns.length (rfOf (B.set (2 * y) true)) + 1 = rfCnt p.ns.length (rfOf B) := by rw [hrs]; exact hcs
    rw [← hcs2, Int.toNat_natCast] at i4
    (refine lops_ge_imp ?_; simp only [↓EVP0, EVQ0, EVQ1, EVQ2, EVQ3, EVQ4, EVA, EVK, EVF,EVFT, ↓reduceIte, Nat.reduceEqDiff, Nat.reduceAdd, Nat.reduceSub, Nat.reduceMul, Nat.reduceLT, Nat.reduceLeDiff, reduceCtorEq, Int.reduceToNat, Int.reduceLT, Int.reduceLE, Int.reduceAdd, Int.reduceSub, Int.reduceMul, Int.reduceNeg, Int.reduceEq, Nat.reduceMod, forall_eq_or_imp, forall_eq, forall_const, cond_true, cond_false, decide_true, decide_false, true_imp_iff, implies_true, Int.cast_ofNat_Int, forall_eq'])
    refine gCallK_ro _ (fun _ => h2 y zn) (fun _ => ?_) ?_
    · simp only [↓EVP0, EVQ0, EVQ1, EVQ2, EVQ3, EVQ4, EVA, EVK, EVF,EVFT, ↓reduceIte, Nat.reduceEqDiff, Nat.reduceAdd, Nat.reduceSub, Nat.reduceMul, Nat.reduceLT, Nat.reduceLeDiff, reduceCtorEq, Int.reduceToNat, Int.reduceLT, Int.reduceLE, Int.reduceAdd, Int.reduceSub, Int.reduceMul, Int.reduceNeg, Int.reduceEq, Nat.reduceMod, forall_eq_or_imp, forall_eq, forall_const, cond_true, cond_false, decide_true, decide_false, true_imp_iff, implies_true, Int.cast_ofNat_Int, forall_eq']
    simp only [↓EVP0, EVQ0, EVQ1, EVQ2, EVQ3, EVQ4, EVA, EVK, EVF,EVFT, ↓reduceIte, Nat.reduceEqDiff, Nat.reduceAdd, Nat.reduceSub, Nat.reduceMul, Nat.reduceLT, Nat.reduceLeDiff, reduceCtorEq, Int.reduceToNat, Int.reduceLT, Int.reduceLE, Int.reduceAdd, Int.reduceSub, Int.reduceMul, Int.reduceNeg, Int.reduceEq, Nat.reduceMod, forall_eq_or_imp, forall_eq, forall_const, cond_true, cond_false, decide_true, decide_false, true_imp_iff, implies_true, Int.cast_ofNat_Int, forall_eq']
    refine ⟨fun hg4 => ?_, fun hg4 => ?_⟩
    · have ha : aboveB l zn y = false := by
        cases e : aboveB l zn y
        · rfl
        · rw [decide_eq_true (stp1.2 e)] at hg4; simp at hg4
      rw [ha, Bool.false_or, Bool.not_false] at i4
      refine ⟨(B.set (2 * y) true, zn, true, (a0 :: path) ++ [c], X), ⟨by rw [List.length_set]; exact i0, hzn, hlen2, hseen, i4⟩, ?_, hpos⟩
      simp only [hne0, if_false]
      simp only [↓EVP0, EVQ0, EVQ1, EVQ2, EVQ3, EVQ4, EVA, EVK, EVF,EVFT, ↓reduceIte, Nat.reduceEqDiff, Nat.reduceAdd, Nat.reduceSub, Nat.reduceMul, Nat.reduceLT, Nat.reduceLeDiff, reduceCtorEq, Int.reduceToNat, Int.reduceLT, Int.reduceLE, Int.reduceAdd, Int.reduceSub, Int.reduceMul, Int.reduceNeg, Int.reduceEq, Nat.reduceMod, forall_eq_or_imp, forall_eq, forall_const, cond_true, cond_false, decide_true, decide_false, true_imp_iff, implies_true, Int.cast_ofNat_Int, forall_eq']
      have hal2 : (path ++ [c]).length = path.length + 1 := by simp
      exact ⟨by rw [hal2]; rfl, by omega, by rw [List.take_of_length_le (Nat.le_refl _)]⟩
    · have ha : aboveB l zn y = true := by
        cases e : aboveB l zn y
        · have hs1 : ¬ stpE l y zn = 1 := fun h => by rw [stp1, e] at h; simp at h
          rw [decide_eq_false hs1] at hg4; simp at hg4
        · rfl
      rw [ha, Bool.false_or, Bool.not_true] at i4
      refine ⟨(B.set (2 * y) true, zn, false, (a0 :: path) ++ [c], X), ⟨by rw [List.length_set]; exact i0, hzn, hlen2, hseen, i4⟩, ?_, hpos⟩
      simp only [hne0, if_false]
      simp only [↓EVP0, EVQ0, EVQ1, EVQ2, EVQ3, EVQ4, EVA, EVK, EVF,EVFT, ↓reduceIte, Nat.reduceEqDiff, Nat.reduceAdd, Nat.reduceSub, Nat.reduceMul, Nat.reduceLT, Nat.reduceLeDiff, reduceCtorEq, Int.reduceToNat, Int.reduceLT, Int.reduceLE, Int.reduceAdd, Int.reduceSub, Int.reduceMul, Int.reduceNeg, Int.reduceEq, Nat.reduceMod, forall_eq_or_imp, forall_eq, forall_const, cond_true, cond_false, decide_true, decide_false, true_imp_iff, implies_true, Int.cast_ofNat_Int, forall_eq']
      have hal2 : (path ++ [c]).length = path.length + 1 := by simp
      exact ⟨by rw [hal2]; rfl, by omega, by rw [List.take_of_length_le (Nat.le_refl _)]⟩
end Go.Proofs.YtcdepkflghcjpaaDoor
namespace Go.Proofs.YtcdepkflghcjpaaDoor
set_option linter.unusedSimpArgs false
set_option linter.unusedVariables false
open Go.RowKit
set_option maxRecDepth 20000

theorem ev_refReaches (p : Pl) {l : List Int} (ho : ordB p l = true) {t : Tb} (ht : refVT p t = true) : Ev Tryd.prog 26 [plV p, intsV l, .rsl 2 t.length (tabF t)] (.sc (.bool (reachB p l t))) := by
  have hO := ord_of ho
  have hv := hO.v
  have hll := hO.len
  have h16 := (valid_of hv).n16
  have hvt : validT p t = true := by unfold validT; rw [decide_eq_true hv]; exact ht
  have h3 := fun x w => ev_refFollow p hv l t ht x w
  have h4 := fun f q hq => ev_rLegal p hv l hll f q hq
  unfold plV intsV at *
  refine ev_fn Tryd.func26 comp26 (show 3 ≤ Tryd.f26.ntmps by decide) ?_; unfold cf26 rf26; simp only [↓EVP0, EVQ0, EVQ1, EVQ2, EVQ3, EVQ4, EVA, EVK, EVF,EVFT, ↓reduceIte, Nat.reduceEqDiff, Nat.reduceAdd, Nat.reduceSub, Nat.reduceMul, Nat.reduceLT, Nat.reduceLeDiff, reduceCtorEq, Int.reduceToNat, Int.reduceLT, Int.reduceLE, Int.reduceAdd, Int.reduceSub, Int.reduceMul, Int.reduceNeg, Int.reduceEq, Nat.reduceMod, forall_eq_or_imp, forall_eq, forall_const, cond_true, cond_false, decide_true, decide_false, true_imp_iff, implies_true, Int.cast_ofNat_Int, forall_eq']
  have hB : reachB p l t = (List.range p.ns.length).all fun a => (List.range p.ns.length).all fun w => rchB p l t a w := by unfold reachB; rw [ho, hvt]; rfl
  refine lwp_for (α := Unit) p.ns.length (fun a _ => ∀ j, j < a → ((List.range p.ns.length).all fun w => rchB p l t j w) = true) (fun a _ => [(1, .rsl 1 l.length (intsF l)), (2, .rsl 2 t.length (tabF t)), (3, .ptr 0 0 0 0 0), (7, .sc (.int .i64 a))])
    (fun _ _ => [(0, .box [.rsl 3 p.ns.length (ndsF p.ns), .rsl 6 p.cs.length (cbsF p.cs)])]) () (fun j hj => absurd hj (Nat.not_lt_zero _)) ?_ (fun _ _ => Nat.zero_le _) ?_
  · simp only [↓EVP0, EVQ0, EVQ1, EVQ2, EVQ3, EVQ4, EVA, EVK, EVF,EVFT, ↓reduceIte, Nat.reduceEqDiff, Nat.reduceAdd, Nat.reduceSub, Nat.reduceMul, Nat.reduceLT, Nat.reduceLeDiff, reduceCtorEq, Int.reduceToNat, Int.reduceLT, Int.reduceLE, Int.reduceAdd, Int.reduceSub, Int.reduceMul, Int.reduceNeg, Int.reduceEq, Nat.reduceMod, forall_eq_or_imp, forall_eq, forall_const, cond_true, cond_false, decide_true, decide_false, true_imp_iff, implies_true, Int.cast_ofNat_Int, forall_eq']
  intro a _ ha hx
  unfold lb26_1
  simp only [↓EVP0, EVQ0, EVQ1, EVQ2, EVQ3, EVQ4, EVA, EVK, EVF,EVFT, ↓reduceIte, Nat.reduceEqDiff, Nat.reduceAdd, Nat.reduceSub, Nat.reduceMul, Nat.reduceLT, Nat.reduceLeDiff, reduceCtorEq, Int.reduceToNat, Int.reduceLT, Int.reduceLE, Int.reduceAdd, Int.reduceSub, Int.reduceMul, Int.reduceNeg, Int.reduceEq, Nat.reduceMod, forall_eq_or_imp, forall_eq, forall_const, cond_true, cond_false, decide_true, decide_false, true_imp_iff, implies_true, Int.cast_ofNat_Int, forall_eq']
  refine fun _ => ⟨fun hg2 => ?_, fun hg2 => ?_⟩
  rotate_left
  · have ha2 : a = p.ns.length := by have := of_decide_eq_false hg2; omega
    rw [hB, rng_yes19 (fun i hi => hx i (by omega))]
  have ha2 : a < p.ns.length := by have := of_decide_eq_true hg2; omega
  refine lwp_for (α := Unit) p.ns.length (fun w _ => ∀ j, j < w → rchB p l t a j = true) (fun w _ => [(1, .rsl 1 l.length (intsF l)), (2, .rsl 2 t.length (tabF t)), (3, .ptr 0 0 0 0 0), (7, .sc (.int .i64 a)), (8, .sc (.int .i64 w))])
    (fun _ _ => [(0, .box [.rsl 3 p.ns.length (ndsF p.ns), .rsl 6 p.cs.length (cbsF p.cs)])]) () (fun j hj => absurd hj (Nat.not_lt_zero _)) ?_ (fun _ _ => Nat.zero_le _) ?_
  · simp only [↓EVP0, EVQ0, EVQ1, EVQ2, EVQ3, EVQ4, EVA, EVK, EVF,EVFT, ↓reduceIte, Nat.reduceEqDiff, Nat.reduceAdd, Nat.reduceSub, Nat.reduceMul, Nat.reduceLT, Nat.reduceLeDiff, reduceCtorEq, Int.reduceToNat, Int.reduceLT, Int.reduceLE, Int.reduceAdd, Int.reduceSub, Int.reduceMul, Int.reduceNeg, Int.reduceEq, Nat.reduceMod, forall_eq_or_imp, forall_eq, forall_const, cond_true, cond_false, decide_true, decide_false, true_imp_iff, implies_true, Int.cast_ofNat_Int, forall_eq']
  intro w _ hw hz
  unfold lb26_0
  simp only [↓EVP0, EVQ0, EVQ1, EVQ2, EVQ3, EVQ4, EVA, EVK, EVF,EVFT, ↓reduceIte, Nat.reduceEqDiff, Nat.reduceAdd, Nat.reduceSub, Nat.reduceMul, Nat.reduceLT, Nat.reduceLeDiff, reduceCtorEq, Int.reduceToNat, Int.reduceLT, Int.reduceLE, Int.reduceAdd, Int.reduceSub, Int.reduceMul, Int.reduceNeg, Int.reduceEq, Nat.reduceMod, forall_eq_or_imp, forall_eq, forall_const, cond_true, cond_false, decide_true, decide_false, true_imp_iff, implies_true, Int.cast_ofNat_Int, forall_eq']
  refine fun _ => ⟨fun hg3 => ?_, fun hg3 => ?_⟩
  rotate_left
  · have hw2 : w = p.ns.length := by have := of_decide_eq_false hg3; omega
    subst hw2
    refine ⟨by unfold In64; omega, ha2, (), fun j hj => ?_⟩
    by_cases ej : j = a
    · rw [ej]; exact rng_yes19 hz
    · exact hx j (by omega)
  have hw2 : w < p.ns.length := by have := of_decide_eq_true hg3; omega
  have hnxt : rchB p l t a w = true → ∀ j, j < w + 1 → rchB p l t a j = true := fun h j hj => by
    by_cases ej : j = w
    · rw [ej]; exact h
    · exact hz j (by omega)
  have hend : rchB p l t a w = false → false = reachB p l t := fun h => by rw [hB, rng_no19 ha2 (rng_no19 hw2 h)]
  have h31 := h3 a w
  have hfr : folR p l t a w = folA p l t a w := by
    unfold folR folA
    rw [if_pos (by unfold nodB; simp; omega), Int.toNat_natCast, Int.toNat_natCast]
  rw [hfr] at h31
  have hlen : (folA p l t a w).1.length ≤ 1000 := by
    unfold folA
    have := fol_len (p := p) (l := l) (t := t) (w := w) (rfCnt p.ns.length (fun _ _ => false) + 1) (fun _ _ => false) a false []
    rw [rfCnt_none] at this ⊢
    simp only [List.length_nil] at this
    omega
  have h41 := h4 a (folA p l t a w).1 hlen
  rw [← legal_ref ho] at h41
  refine ⟨⟨by omega, by omega⟩, fun _ => ⟨by omega, by omega⟩, fun hg4 => ⟨by unfold In64; omega, hw2, (), hnxt ?_⟩, fun hg4 => ?_⟩
  · unfold rchB
    revert hg4
    cases decide (l.getD a 0 < 0) <;> cases decide (l.getD w 0 < 0) <;> simp
  have hl2 : (decide (l.getD a 0 < 0) || decide (l.getD w 0 < 0)) = false := by
    revert hg4
    cases decide (l.getD a 0 < 0) <;> cases decide (l.getD w 0 < 0) <;> simp
  have hrc : rchB p l t a w = (decide ((folA p l t a w).2 = 0) && legalE p l (a : Int) (folA p l t a w).1) := by unfold rchB; rw [hl2]; rfl
  refine callK_ro (h31) ?_ ?_
  · simp only [↓EVP0, EVQ0, EVQ1, EVQ2, EVQ3, EVQ4, EVA, EVK, EVF,EVFT, ↓reduceIte, Nat.reduceEqDiff, Nat.reduceAdd, Nat.reduceSub, Nat.reduceMul, Nat.reduceLT, Nat.reduceLeDiff, reduceCtorEq, Int.reduceToNat, Int.reduceLT, Int.reduceLE, Int.reduceAdd, Int.reduceSub, Int.reduceMul, Int.reduceNeg, Int.reduceEq, Nat.reduceMod, forall_eq_or_imp, forall_eq, forall_const, cond_true, cond_false, decide_true, decide_false, true_imp_iff, implies_true, Int.cast_ofNat_Int, forall_eq']
  simp only [↓EVP0, EVQ0, EVQ1, EVQ2, EVQ3, EVQ4, EVA, EVK, EVF,EVFT, ↓reduceIte, Nat.reduceEqDiff, Nat.reduceAdd, Nat.reduceSub, Nat.reduceMul, Nat.reduceLT, Nat.reduceLeDiff, reduceCtorEq, Int.reduceToNat, Int.reduceLT, Int.reduceLE, Int.reduceAdd, Int.reduceSub, Int.reduceMul, Int.reduceNeg, Int.reduceEq, Nat.reduceMod, forall_eq_or_imp, forall_eq, forall_const, cond_true, cond_false, decide_true, decide_false, true_imp_iff, implies_true, Int.cast_ofNat_Int, forall_eq']
  (refine lops_ge_imp ?_; simp only [↓EVP0, EVQ0, EVQ1, EVQ2, EVQ3, EVQ4, EVA, EVK, EVF,EVFT, ↓reduceIte, Nat.reduceEqDiff, Nat.reduceAdd, Nat.reduceSub, Nat.reduceMul, Nat.reduceLT, Nat.reduceLeDiff, reduceCtorEq, Int.reduceToNat, Int.reduceLT, Int.reduceLE, Int.reduceAdd, Int.reduceSub, Int.reduceMul, Int.reduceNeg, Int.reduceEq, Nat.reduceMod, forall_eq_or_imp, forall_eq, forall_const, cond_true, cond_false, decide_true, decide_false, true_imp_iff, implies_true, Int.cast_ofNat_Int, forall_eq'])
  refine gCallK_ro _ (fun _ => h41) (fun _ => ?_) ?_
  · simp only [↓EVP0, EVQ0, EVQ1, EVQ2, EVQ3, EVQ4, EVA, EVK, EVF,EVFT, ↓reduceIte, Nat.reduceEqDiff, Nat.reduceAdd, Nat.reduceSub, Nat.reduceMul, Nat.reduceLT, Nat.reduceLeDiff, reduceCtorEq, Int.reduceToNat, Int.reduceLT, Int.reduceLE, Int.reduceAdd, Int.reduceSub, Int.reduceMul, Int.reduceNeg, Int.reduceEq, Nat.reduceMod, forall_eq_or_imp, forall_eq, forall_const, cond_true, cond_false, decide_true, decide_false, true_imp_iff, implies_true, Int.cast_ofNat_Int, forall_eq']
  simp only [↓EVP0, EVQ0, EVQ1, EVQ2, EVQ3, EVQ4, EVA, EVK, EVF,EVFT, ↓reduceIte, Nat.reduceEqDiff, Nat.reduceAdd, Nat.reduceSub, Nat.reduceMul, Nat.reduceLT, Nat.reduceLeDiff, reduceCtorEq, Int.reduceToNat, Int.reduceLT, Int.reduceLE, Int.reduceAdd, Int.reduceSub, Int.reduceMul, Int.reduceNeg, Int.reduceEq, Nat.reduceMod, forall_eq_or_imp, forall_eq, forall_const, cond_true, cond_false, decide_true, decide_false, true_imp_iff, implies_true, Int.cast_ofNat_Int, forall_eq']
  rw [hrc] at hnxt hend
  revert hnxt hend
  cases decide ((folA p l t a w).2 = 0) <;> cases legalE p l (a : Int) (folA p l t a w).1 <;> intro hnxt hend
  · exact ⟨fun _ => hend rfl, fun h => by simp at h⟩
  · exact ⟨fun _ => hend rfl, fun h => by simp at h⟩
  · exact ⟨fun _ => hend rfl, fun h => by simp at h⟩
  · exact ⟨fun h => by simp at h, fun _ => ⟨by unfold In64; omega, hw2, (), hnxt rfl⟩⟩
end Go.Proofs.YtcdepkflghcjpaaDoor
namespace Go.Proofs.YtcdepkflghcjpaaDoor
set_option linter.unusedSimpArgs false
set_option linter.unusedVariables false
open Go.RowKit
set_option maxRecDepth 20000

abbrev Ls := List (List Int)
def llF (l : Ls) (i : Nat) : List LV := [intsV (l.getD i [])]
def llV (l : Ls) : LV := .rsl 1 l.length (llF l)
theorem EVFL : (∀ (l : List Int) (i : Nat), intsF l i = [.sc (.int .i64 (l.getD i 0))]) ∧ (∀ (l : Ls) (i : Nat), llF l i = [.rsl 1 (l.getD i []).length (intsF (l.getD i []))]) :=
  ⟨fun _ _ => rfl, fun _ _ => rfl⟩
def tblE (l : Ls) : Tb := (List.range (l.length / 2)).map fun k => (l.getD (2 * k) [], l.getD (2 * k + 1) [])
theorem tblE_len (l : Ls) : (tblE l).length = l.length / 2 := by simp [tblE]
theorem tblE_get (l : Ls) {k : Nat} (h : k < l.length / 2) : (tblE l).getD k ([], []) = (l.getD (2 * k) [], l.getD (2 * k + 1) []) := by
  unfold tblE
  rw [List.getD_eq_getElem?_getD, List.getElem?_map, List.getElem?_range h]; rfl
def apF (z : Nat) (g : Nat → List LV) : Nat → Nat → List LV
  | 0 => elO .dead
  | m + 1 => fun i => if i < m then apF z g m i else List.take z (List.drop ((i - m) * z) (g m))
theorem apF_get {z : Nat} {g : Nat → List LV} (hg : ∀ m, (g m).length = z) : ∀ {m i : Nat}, i < m → apF z g m i = g i
  | m + 1, i, h => by
    unfold apF
    by_cases e : i < m
    · rw [if_pos e]; exact apF_get hg e
    · have : i = m := by omega
      subst this
      rw [if_neg e, Nat.sub_self, Nat.zero_mul, List.drop_zero, List.take_of_length_le (by rw [hg]; exact Nat.le_refl _)]
def t2F (l : Ls) (k : Nat) : List LV := [.rsl 1 (l.getD (2 * k) []).length (intsF (l.getD (2 * k) [])), .rsl 1 (l.getD (2 * k + 1) []).length (intsF (l.getD (2 * k + 1) []))]
theorem ap_t2 {l : Ls} {m i : Nat} (h : i < m) : apF 2 (t2F l) m i = t2F l i := apF_get (z := 2) (g := t2F l) (fun _ => rfl) h
theorem t2_tab {l : Ls} {k : Nat} (h : k < l.length / 2) : t2F l k = tabF (tblE l) k := by
  unfold t2F tabF intsV
  rw [tblE_get l h]
def t2G (l : Ls) (m : Nat) (i : Nat) : List LV := List.take 2 (List.drop (i * 2) (t2F l m))
theorem t2_all {l : Ls} {n m : Nat} : ∀ i, i < m → allC n (List.take 2 (apF 2 (t2F l) m i)) := by
  intro i hi
  rw [ap_t2 hi]
  exact ⟨trivial, trivial, trivial⟩
theorem ev_table (l : Ls) (h40 : l.length ≤ 40) : Ev Tryd.prog 21 [llV l] (tabV (tblE l)) := by
  unfold llV tabV
  refine ev_fn Tryd.func21 comp21 (show 1 ≤ Tryd.f21.ntmps by decide) ?_; unfold cf21 rf21; simp only [↓EVP0, EVQ0, EVQ1, EVQ2, EVQ3, EVQ4, EVA, EVK, EVF,EVFL, ↓reduceIte, Nat.reduceEqDiff, Nat.reduceAdd, Nat.reduceSub, Nat.reduceMul, Nat.reduceLT, Nat.reduceLeDiff, reduceCtorEq, Int.reduceToNat, Int.reduceLT, Int.reduceLE, Int.reduceAdd, Int.reduceSub, Int.reduceMul, Int.reduceNeg, Int.reduceEq, Nat.reduceMod, forall_eq_or_imp, forall_eq, forall_const, cond_true, cond_false, decide_true, decide_false, true_imp_iff, implies_true, Int.cast_ofNat_Int, forall_eq']
  refine lwp_for (α := Unit) (l.length / 2) (fun i _ => True) (fun i _ => [(0, .rsl 1 l.length (llF l)), (2, .ptr 0 0 0 0 0), (3, .ptr 1 0 0 0 0), (4, .sc (.int .i64 (2 * (i : Int))))])
    (fun i _ => if i = 0 then [(0, .box [.nsl]), (0, .box [.nsl])]
      else [(0, .box [.nsl]), (0, .box [.sl 2 (i - 1) 2 0 i]), (i - 1, .row 2 i (apF 2 (t2F l) i))]) () trivial ?_ (fun _ _ => Nat.zero_le _) ?_
  · simp only [if_true]
    simp only [↓EVP0, EVQ0, EVQ1, EVQ2, EVQ3, EVQ4, EVA, EVK, EVF,EVFL, ↓reduceIte, Nat.reduceEqDiff, Nat.reduceAdd, Nat.reduceSub, Nat.reduceMul, Nat.reduceLT, Nat.reduceLeDiff, reduceCtorEq, Int.reduceToNat, Int.reduceLT, Int.reduceLE, Int.reduceAdd, Int.reduceSub, Int.reduceMul, Int.reduceNeg, Int.reduceEq, Nat.reduceMod, forall_eq_or_imp, forall_eq, forall_const, cond_true, cond_false, decide_true, decide_false, true_imp_iff, implies_true, Int.cast_ofNat_Int, forall_eq']
  intro m _ hi _
  cases m with
  | zero =>
    simp only [if_true]
    unfold lb21_0
    simp only [↓EVP0, EVQ0, EVQ1, EVQ2, EVQ3, EVQ4, EVA, EVK, EVF,EVFL, ↓reduceIte, Nat.reduceEqDiff, Nat.reduceAdd, Nat.reduceSub, Nat.reduceMul, Nat.reduceLT, Nat.reduceLeDiff, reduceCtorEq, Int.reduceToNat, Int.reduceLT, Int.reduceLE, Int.reduceAdd, Int.reduceSub, Int.reduceMul, Int.reduceNeg, Int.reduceEq, Nat.reduceMod, forall_eq_or_imp, forall_eq, forall_const, cond_true, cond_false, decide_true, decide_false, true_imp_iff, implies_true, Int.cast_ofNat_Int, forall_eq']
    refine ⟨by unfold In64; omega, fun _ => ⟨fun hg => ?_, fun hg => ?_⟩⟩
    · have hg2 := of_decide_eq_true hg
      exact ⟨by omega, by unfold In64; omega, hg2, t2G l 0, fun _ _ => rfl, by unfold appRoom; omega, by unfold In64; omega, by omega, (), rfl, t2_all⟩
    · have := of_decide_eq_false hg
      rw [tblE_len]; omega
  | succ m =>
    simp only [show ¬ m + 1 = 0 by omega, if_false]
    unfold lb21_0
    simp only [↓EVP0, EVQ0, EVQ1, EVQ2, EVQ3, EVQ4, EVA, EVK, EVF,EVFL, ↓reduceIte, Nat.reduceEqDiff, Nat.reduceAdd, Nat.reduceSub, Nat.reduceMul, Nat.reduceLT, Nat.reduceLeDiff, reduceCtorEq, Int.reduceToNat, Int.reduceLT, Int.reduceLE, Int.reduceAdd, Int.reduceSub, Int.reduceMul, Int.reduceNeg, Int.reduceEq, Nat.reduceMod, forall_eq_or_imp, forall_eq, forall_const, cond_true, cond_false, decide_true, decide_false, true_imp_iff, implies_true, Int.cast_ofNat_Int, forall_eq']
    rw [show (2 * ((m : Int) + 1)).toNat = 2 * (m + 1) by omega, show (2 * ((m : Int) + 1) + 1).toNat = 2 * (m + 1) + 1 by omega]
    refine ⟨by unfold In64; omega, fun _ => ⟨fun hg => ?_, fun hg => ?_⟩⟩
    · have hg2 := of_decide_eq_true hg
      exact ⟨⟨by omega, by omega⟩, by unfold In64; omega, ⟨by omega, by omega⟩, t2G l (m + 1), fun _ _ => rfl, ⟨Nat.le_refl _, fun k hk => by rw [ap_t2 hk]; rfl⟩, by unfold appRoom; omega, by unfold In64; omega, by omega, (), by omega, by rw [show m + 1 - 1 + 1 = m + 1 + 1 - 1 by omega], ⟨by omega, rfl⟩, t2_all⟩
    · have hg2 := of_decide_eq_false hg
      have hl : l.length / 2 = m + 1 := by omega
      exact ⟨by rw [tblE_len]; exact hl, ⟨Nat.le_refl _, fun k hk => by rw [ap_t2 hk]; rfl⟩, fun k hk => by rw [ap_t2 hk, t2_tab (by omega)]; exact ⟨rfl, trivial, trivial, trivial⟩⟩
end Go.Proofs.YtcdepkflghcjpaaDoor
namespace Go.Proofs.YtcdepkflghcjpaaDoor
set_option linter.unusedSimpArgs false
set_option linter.unusedVariables false
open Go.RowKit
set_option maxRecDepth 20000

theorem validT_eq (p : Pl) (t : Tb) : validT p t = (decide (validE p = 0) && refVT p t) := rfl
theorem lops0_off19 {P : Program} {K : LS → LH → Prop} {s : LS} {h : LH} {d : Option Nat} {t : Nat} {b : Bool} {q : LEf} (r : LV) (hx : evk (s t) (fun gv => gOk gv ∧ gOf b gv = false ∧ K (updO s d (.cnd false r)) h)) : @lops0G P d t b q ⟨K⟩ s h := by
  show lops0 P ⟨d, some (t, b), .e q⟩ K s h
  simp only [lops0, LStep, evk] at hx ⊢
  obtain ⟨h1, hg, h4⟩ := hx
  exact ⟨.cnd false r, h, ⟨h1, .inr (.inr ⟨r, by rw [hg], rfl, fun h => by rw [hg] at h; simp at h⟩)⟩, h4⟩
theorem ev_lawFollows (p : Pl) (hp : PlOk p) (l : List Int) (q : Ls) (x w : Int) : Ev Tryd.prog 6 [plV p, .agg [intsV l], llV q, .sc (.int .i64 x), .sc (.int .i64 w)] (.sc (.bool true)) := by
  have h0 := ev_awake19
  have h1 : Ev Tryd.prog 12 [plV p, .agg [intsV l], .nsl] (.sc (.int .i64 (if smallB p l [] = true then 1 else 0))) := by
    exact ev_im (bs := [plV p, .agg [intsV l], boolsV []]) ⟨Im.refl _, Im.refl _, im_nsl19 _, trivial⟩ (ev_small19 p l [])
  have h2 := fun h => ev_table q h
  generalize hT : tblE q = t at h2
  have h3 := ev_ref14 p
  have h4 := ev_valid19 p hp t
  have h5 := ev_refV p t
  have h6 := ev_Follow19 p hp l t x w
  have h7 := ev_fits19 p l (List.replicate p.cs.length false)
  have h8 := ev_Reaches p hp l t
  have h9 := fun hv ht => ev_refFollow p hv l t ht x w
  have h10 := fun a b => ev_equal a b
  have h11 := fun (ho : ordB p l = true) (ht : refVT p t = true) => ev_refReaches p ho ht
  unfold plV intsV tabV boolsV llV at *
  refine ev_fn Tryd.func6 comp6 (show 5 ≤ Tryd.f6.ntmps by decide) ?_; unfold cf6 rf6; simp only [↓EVP0, EVQ0, EVQ1, EVQ2, EVQ3, EVQ4, EVA, EVK, EVF,EVFT, ↓reduceIte, Nat.reduceEqDiff, Nat.reduceAdd, Nat.reduceSub, Nat.reduceMul, Nat.reduceLT, Nat.reduceLeDiff, reduceCtorEq, Int.reduceToNat, Int.reduceLT, Int.reduceLE, Int.reduceAdd, Int.reduceSub, Int.reduceMul, Int.reduceNeg, Int.reduceEq, Nat.reduceMod, forall_eq_or_imp, forall_eq, forall_const, cond_true, cond_false, decide_true, decide_false, true_imp_iff, implies_true, Int.cast_ofNat_Int, forall_eq']
  refine callK_ro (h0) ?_ ?_
  · simp only [↓EVP0, EVQ0, EVQ1, EVQ2, EVQ3, EVQ4, EVA, EVK, EVF,EVFT, ↓reduceIte, Nat.reduceEqDiff, Nat.reduceAdd, Nat.reduceSub, Nat.reduceMul, Nat.reduceLT, Nat.reduceLeDiff, reduceCtorEq, Int.reduceToNat, Int.reduceLT, Int.reduceLE, Int.reduceAdd, Int.reduceSub, Int.reduceMul, Int.reduceNeg, Int.reduceEq, Nat.reduceMod, forall_eq_or_imp, forall_eq, forall_const, cond_true, cond_false, decide_true, decide_false, true_imp_iff, implies_true, Int.cast_ofNat_Int, forall_eq']
  simp only [↓EVP0, EVQ0, EVQ1, EVQ2, EVQ3, EVQ4, EVA, EVK, EVF,EVFT, ↓reduceIte, Nat.reduceEqDiff, Nat.reduceAdd, Nat.reduceSub, Nat.reduceMul, Nat.reduceLT, Nat.reduceLeDiff, reduceCtorEq, Int.reduceToNat, Int.reduceLT, Int.reduceLE, Int.reduceAdd, Int.reduceSub, Int.reduceMul, Int.reduceNeg, Int.reduceEq, Nat.reduceMod, forall_eq_or_imp, forall_eq, forall_const, cond_true, cond_false, decide_true, decide_false, true_imp_iff, implies_true, Int.cast_ofNat_Int, forall_eq']
  refine callK_ro (h1) ?_ ?_
  · simp only [↓EVP0, EVQ0, EVQ1, EVQ2, EVQ3, EVQ4, EVA, EVK, EVF,EVFT, ↓reduceIte, Nat.reduceEqDiff, Nat.reduceAdd, Nat.reduceSub, Nat.reduceMul, Nat.reduceLT, Nat.reduceLeDiff, reduceCtorEq, Int.reduceToNat, Int.reduceLT, Int.reduceLE, Int.reduceAdd, Int.reduceSub, Int.reduceMul, Int.reduceNeg, Int.reduceEq, Nat.reduceMod, forall_eq_or_imp, forall_eq, forall_const, cond_true, cond_false, decide_true, decide_false, true_imp_iff, implies_true, Int.cast_ofNat_Int, forall_eq']
  simp only [↓EVP0, EVQ0, EVQ1, EVQ2, EVQ3, EVQ4, EVA, EVK, EVF,EVFT, ↓reduceIte, Nat.reduceEqDiff, Nat.reduceAdd, Nat.reduceSub, Nat.reduceMul, Nat.reduceLT, Nat.reduceLeDiff, reduceCtorEq, Int.reduceToNat, Int.reduceLT, Int.reduceLE, Int.reduceAdd, Int.reduceSub, Int.reduceMul, Int.reduceNeg, Int.reduceEq, Nat.reduceMod, forall_eq_or_imp, forall_eq, forall_const, cond_true, cond_false, decide_true, decide_false, true_imp_iff, implies_true, Int.cast_ofNat_Int, forall_eq']
  have hs : decide ((if smallB p l [] = true then (1 : Int) else 0) = 0) = !smallB p l [] := by cases smallB p l [] <;> rfl
  rw [hs]
  refine ⟨fun _ => trivial, fun hg => ?_⟩
  have h40 : q.length ≤ 40 := by
    by_cases h : (40 : Int) < q.length
    · rw [decide_eq_true h] at hg; simp at hg
    · omega
  refine callK_ro (h2 h40) ?_ ?_
  · simp only [↓EVP0, EVQ0, EVQ1, EVQ2, EVQ3, EVQ4, EVA, EVK, EVF,EVFT, ↓reduceIte, Nat.reduceEqDiff, Nat.reduceAdd, Nat.reduceSub, Nat.reduceMul, Nat.reduceLT, Nat.reduceLeDiff, reduceCtorEq, Int.reduceToNat, Int.reduceLT, Int.reduceLE, Int.reduceAdd, Int.reduceSub, Int.reduceMul, Int.reduceNeg, Int.reduceEq, Nat.reduceMod, forall_eq_or_imp, forall_eq, forall_const, cond_true, cond_false, decide_true, decide_false, true_imp_iff, implies_true, Int.cast_ofNat_Int, forall_eq']
  simp only [↓EVP0, EVQ0, EVQ1, EVQ2, EVQ3, EVQ4, EVA, EVK, EVF,EVFT, ↓reduceIte, Nat.reduceEqDiff, Nat.reduceAdd, Nat.reduceSub, Nat.reduceMul, Nat.reduceLT, Nat.reduceLeDiff, reduceCtorEq, Int.reduceToNat, Int.reduceLT, Int.reduceLE, Int.reduceAdd, Int.reduceSub, Int.reduceMul, Int.reduceNeg, Int.reduceEq, Nat.reduceMod, forall_eq_or_imp, forall_eq, forall_const, cond_true, cond_false, decide_true, decide_false, true_imp_iff, implies_true, Int.cast_ofNat_Int, forall_eq']
  refine callK_ro (h3) ?_ ?_
  · simp only [↓EVP0, EVQ0, EVQ1, EVQ2, EVQ3, EVQ4, EVA, EVK, EVF,EVFT, ↓reduceIte, Nat.reduceEqDiff, Nat.reduceAdd, Nat.reduceSub, Nat.reduceMul, Nat.reduceLT, Nat.reduceLeDiff, reduceCtorEq, Int.reduceToNat, Int.reduceLT, Int.reduceLE, Int.reduceAdd, Int.reduceSub, Int.reduceMul, Int.reduceNeg, Int.reduceEq, Nat.reduceMod, forall_eq_or_imp, forall_eq, forall_const, cond_true, cond_false, decide_true, decide_false, true_imp_iff, implies_true, Int.cast_ofNat_Int, forall_eq']
  simp only [↓EVP0, EVQ0, EVQ1, EVQ2, EVQ3, EVQ4, EVA, EVK, EVF,EVFT, ↓reduceIte, Nat.reduceEqDiff, Nat.reduceAdd, Nat.reduceSub, Nat.reduceMul, Nat.reduceLT, Nat.reduceLeDiff, reduceCtorEq, Int.reduceToNat, Int.reduceLT, Int.reduceLE, Int.reduceAdd, Int.reduceSub, Int.reduceMul, Int.reduceNeg, Int.reduceEq, Nat.reduceMod, forall_eq_or_imp, forall_eq, forall_const, cond_true, cond_false, decide_true, decide_false, true_imp_iff, implies_true, Int.cast_ofNat_Int, forall_eq']
  refine callK_ro (h4) ?_ ?_
  · simp only [↓EVP0, EVQ0, EVQ1, EVQ2, EVQ3, EVQ4, EVA, EVK, EVF,EVFT, ↓reduceIte, Nat.reduceEqDiff, Nat.reduceAdd, Nat.reduceSub, Nat.reduceMul, Nat.reduceLT, Nat.reduceLeDiff, reduceCtorEq, Int.reduceToNat, Int.reduceLT, Int.reduceLE, Int.reduceAdd, Int.reduceSub, Int.reduceMul, Int.reduceNeg, Int.reduceEq, Nat.reduceMod, forall_eq_or_imp, forall_eq, forall_const, cond_true, cond_false, decide_true, decide_false, true_imp_iff, implies_true, Int.cast_ofNat_Int, forall_eq']
  simp only [↓EVP0, EVQ0, EVQ1, EVQ2, EVQ3, EVQ4, EVA, EVK, EVF,EVFT, ↓reduceIte, Nat.reduceEqDiff, Nat.reduceAdd, Nat.reduceSub, Nat.reduceMul, Nat.reduceLT, Nat.reduceLeDiff, reduceCtorEq, Int.reduceToNat, Int.reduceLT, Int.reduceLE, Int.reduceAdd, Int.reduceSub, Int.reduceMul, Int.reduceNeg, Int.reduceEq, Nat.reduceMod, forall_eq_or_imp, forall_eq, forall_const, cond_true, cond_false, decide_true, decide_false, true_imp_iff, implies_true, Int.cast_ofNat_Int, forall_eq']
  (refine lops_ge_imp ?_; simp only [↓EVP0, EVQ0, EVQ1, EVQ2, EVQ3, EVQ4, EVA, EVK, EVF,EVFT, ↓reduceIte, Nat.reduceEqDiff, Nat.reduceAdd, Nat.reduceSub, Nat.reduceMul, Nat.reduceLT, Nat.reduceLeDiff, reduceCtorEq, Int.reduceToNat, Int.reduceLT, Int.reduceLE, Int.reduceAdd, Int.reduceSub, Int.reduceMul, Int.reduceNeg, Int.reduceEq, Nat.reduceMod, forall_eq_or_imp, forall_eq, forall_const, cond_true, cond_false, decide_true, decide_false, true_imp_iff, implies_true, Int.cast_ofNat_Int, forall_eq'])
  refine gCallK_ro _ (fun _ => h5) (fun _ => ?_) ?_
  · simp only [↓EVP0, EVQ0, EVQ1, EVQ2, EVQ3, EVQ4, EVA, EVK, EVF,EVFT, ↓reduceIte, Nat.reduceEqDiff, Nat.reduceAdd, Nat.reduceSub, Nat.reduceMul, Nat.reduceLT, Nat.reduceLeDiff, reduceCtorEq, Int.reduceToNat, Int.reduceLT, Int.reduceLE, Int.reduceAdd, Int.reduceSub, Int.reduceMul, Int.reduceNeg, Int.reduceEq, Nat.reduceMod, forall_eq_or_imp, forall_eq, forall_const, cond_true, cond_false, decide_true, decide_false, true_imp_iff, implies_true, Int.cast_ofNat_Int, forall_eq']
  simp only [↓EVP0, EVQ0, EVQ1, EVQ2, EVQ3, EVQ4, EVA, EVK, EVF,EVFT, ↓reduceIte, Nat.reduceEqDiff, Nat.reduceAdd, Nat.reduceSub, Nat.reduceMul, Nat.reduceLT, Nat.reduceLeDiff, reduceCtorEq, Int.reduceToNat, Int.reduceLT, Int.reduceLE, Int.reduceAdd, Int.reduceSub, Int.reduceMul, Int.reduceNeg, Int.reduceEq, Nat.reduceMod, forall_eq_or_imp, forall_eq, forall_const, cond_true, cond_false, decide_true, decide_false, true_imp_iff, implies_true, Int.cast_ofNat_Int, forall_eq']
  rw [show (bif decide (validE p = 0) then refVT p t else false) = validT p t by rw [validT_eq]; cases decide (validE p = 0) <;> rfl, decide_eq_true rfl]
  refine ⟨fun h => by simp at h, fun _ => ?_⟩
  refine callK_ro (h6) ?_ ?_
  · simp only [↓EVP0, EVQ0, EVQ1, EVQ2, EVQ3, EVQ4, EVA, EVK, EVF,EVFT, ↓reduceIte, Nat.reduceEqDiff, Nat.reduceAdd, Nat.reduceSub, Nat.reduceMul, Nat.reduceLT, Nat.reduceLeDiff, reduceCtorEq, Int.reduceToNat, Int.reduceLT, Int.reduceLE, Int.reduceAdd, Int.reduceSub, Int.reduceMul, Int.reduceNeg, Int.reduceEq, Nat.reduceMod, forall_eq_or_imp, forall_eq, forall_const, cond_true, cond_false, decide_true, decide_false, true_imp_iff, implies_true, Int.cast_ofNat_Int, forall_eq']
  simp only [↓EVP0, EVQ0, EVQ1, EVQ2, EVQ3, EVQ4, EVA, EVK, EVF,EVFT, ↓reduceIte, Nat.reduceEqDiff, Nat.reduceAdd, Nat.reduceSub, Nat.reduceMul, Nat.reduceLT, Nat.reduceLeDiff, reduceCtorEq, Int.reduceToNat, Int.reduceLT, Int.reduceLE, Int.reduceAdd, Int.reduceSub, Int.reduceMul, Int.reduceNeg, Int.reduceEq, Nat.reduceMod, forall_eq_or_imp, forall_eq, forall_const, cond_true, cond_false, decide_true, decide_false, true_imp_iff, implies_true, Int.cast_ofNat_Int, forall_eq']
  have hc12 : p.cs.length ≤ 12 := by
    have c1 : smallB p l [] = true := by
      cases h : smallB p l []
      · rw [h] at hg; simp at hg
      · rfl
    unfold smallB at c1
    simp only [Bool.and_eq_true, decide_eq_true_eq] at c1
    exact c1.2.1
  rw [List.length_replicate] at h7
  have hm : mksC (p.cs.length : Int) (p.cs.length : Int) 1 := by unfold mksC; omega
  have hrep : p.cs.length ≤ (List.replicate p.cs.length false).length := by simp
  have hfe : ordB p l = fitB19 p l (List.replicate p.cs.length false) := by
    unfold fitB19
    rw [List.length_replicate, decide_eq_true rfl, Bool.and_true]
    cases e : ordB p l
    · by_cases hv : validE p = 0
      · rw [fits_ord hv, e, Bool.and_false]
      · rw [decide_eq_false hv, Bool.false_and]
    · have hv := (ord_of e).v
      rw [fits_ord hv, e, decide_eq_true hv]; rfl
  rw [← hfe] at h7
  have hbad : (ordB p l && validT p t) = false → folE p l t x w = ([], 1) ∧ reachB p l t = false := by
    intro h
    unfold folE reachB
    rw [← Bool.and_assoc, h, if_neg (by rintro ⟨a, b⟩; rw [a, b] at h; simp at h)]
    exact ⟨rfl, rfl⟩
  have hv0 : ordB p l = true → validE p = 0 := fun h => (ord_of h).v
  cases ho : ordB p l
  · obtain ⟨b1, b2⟩ := hbad (by rw [ho]; rfl)
    rw [b1]
    rw [ho] at h7
    rw [b2] at h8
    refine ⟨⟨hm, ?_⟩, ⟨hm, ?_⟩, hm, ?_⟩
    all_goals (refine callK_frz h7 ?_ ?_ ?_)
    any_goals (simp only [↓EVP0, EVQ0, EVQ1, EVQ2, EVQ3, EVQ4, EVA, EVK, EVF,EVFT, ↓reduceIte, Nat.reduceEqDiff, Nat.reduceAdd, Nat.reduceSub, Nat.reduceMul, Nat.reduceLT, Nat.reduceLeDiff, reduceCtorEq, Int.reduceToNat, Int.reduceLT, Int.reduceLE, Int.reduceAdd, Int.reduceSub, Int.reduceMul, Int.reduceNeg, Int.reduceEq, Nat.reduceMod, forall_eq_or_imp, forall_eq, forall_const, cond_true, cond_false, decide_true, decide_false, true_imp_iff, implies_true, Int.cast_ofNat_Int, forall_eq']; done)
    any_goals (simp only [↓EVP0, EVQ0, EVQ1, EVQ2, EVQ3, EVQ4, EVA, EVK, EVF,EVFT, ↓reduceIte, Nat.reduceEqDiff, Nat.reduceAdd, Nat.reduceSub, Nat.reduceMul, Nat.reduceLT, Nat.reduceLeDiff, reduceCtorEq, Int.reduceToNat, Int.reduceLT, Int.reduceLE, Int.reduceAdd, Int.reduceSub, Int.reduceMul, Int.reduceNeg, Int.reduceEq, Nat.reduceMod, forall_eq_or_imp, forall_eq, forall_const, cond_true, cond_false, decide_true, decide_false, true_imp_iff, implies_true, Int.cast_ofNat_Int, forall_eq']; exact hrep)
    all_goals simp only [↓EVP0, EVQ0, EVQ1, EVQ2, EVQ3, EVQ4, EVA, EVK, EVF,EVFT, ↓reduceIte, Nat.reduceEqDiff, Nat.reduceAdd, Nat.reduceSub, Nat.reduceMul, Nat.reduceLT, Nat.reduceLeDiff, reduceCtorEq, Int.reduceToNat, Int.reduceLT, Int.reduceLE, Int.reduceAdd, Int.reduceSub, Int.reduceMul, Int.reduceNeg, Int.reduceEq, Nat.reduceMod, forall_eq_or_imp, forall_eq, forall_const, cond_true, cond_false, decide_true, decide_false, true_imp_iff, implies_true, Int.cast_ofNat_Int, forall_eq']
    all_goals (refine lops0_off19 (.sc (.bool true)) ?_; simp only [↓EVP0, EVQ0, EVQ1, EVQ2, EVQ3, EVQ4, EVA, EVK, EVF,EVFT, ↓reduceIte, Nat.reduceEqDiff, Nat.reduceAdd, Nat.reduceSub, Nat.reduceMul, Nat.reduceLT, Nat.reduceLeDiff, reduceCtorEq, Int.reduceToNat, Int.reduceLT, Int.reduceLE, Int.reduceAdd, Int.reduceSub, Int.reduceMul, Int.reduceNeg, Int.reduceEq, Nat.reduceMod, forall_eq_or_imp, forall_eq, forall_const, cond_true, cond_false, decide_true, decide_false, true_imp_iff, implies_true, Int.cast_ofNat_Int, forall_eq'])
    all_goals (refine lops_ge_imp ?_; simp only [↓EVP0, EVQ0, EVQ1, EVQ2, EVQ3, EVQ4, EVA, EVK, EVF,EVFT, ↓reduceIte, Nat.reduceEqDiff, Nat.reduceAdd, Nat.reduceSub, Nat.reduceMul, Nat.reduceLT, Nat.reduceLeDiff, reduceCtorEq, Int.reduceToNat, Int.reduceLT, Int.reduceLE, Int.reduceAdd, Int.reduceSub, Int.reduceMul, Int.reduceNeg, Int.reduceEq, Nat.reduceMod, forall_eq_or_imp, forall_eq, forall_const, cond_true, cond_false, decide_true, decide_false, true_imp_iff, implies_true, Int.cast_ofNat_Int, forall_eq'])
    all_goals (refine gCallK_ro _ (fun _ => h8) (fun _ => ?_) ?_)
    all_goals simp only [↓EVP0, EVQ0, EVQ1, EVQ2, EVQ3, EVQ4, EVA, EVK, EVF,EVFT, ↓reduceIte, Nat.reduceEqDiff, Nat.reduceAdd, Nat.reduceSub, Nat.reduceMul, Nat.reduceLT, Nat.reduceLeDiff, reduceCtorEq, Int.reduceToNat, Int.reduceLT, Int.reduceLE, Int.reduceAdd, Int.reduceSub, Int.reduceMul, Int.reduceNeg, Int.reduceEq, Nat.reduceMod, forall_eq_or_imp, forall_eq, forall_const, cond_true, cond_false, decide_true, decide_false, true_imp_iff, implies_true, Int.cast_ofNat_Int, forall_eq']
  rw [hfe] at ho
  have hv := (ord_of (hfe.trans ho)).v
  rw [← hfe] at ho
  cases hr : refVT p t
  · obtain ⟨b1, b2⟩ := hbad (by rw [validT_eq, hr, Bool.and_false, Bool.and_false])
    rw [b1]
    rw [hr] at h5
    rw [ho] at h7
    rw [b2] at h8
    refine ⟨⟨hm, ?_⟩, ⟨hm, ?_⟩, hm, ?_⟩
    all_goals (refine callK_frz h7 ?_ ?_ ?_)
    any_goals (simp only [↓EVP0, EVQ0, EVQ1, EVQ2, EVQ3, EVQ4, EVA, EVK, EVF,EVFT, ↓reduceIte, Nat.reduceEqDiff, Nat.reduceAdd, Nat.reduceSub, Nat.reduceMul, Nat.reduceLT, Nat.reduceLeDiff, reduceCtorEq, Int.reduceToNat, Int.reduceLT, Int.reduceLE, Int.reduceAdd, Int.reduceSub, Int.reduceMul, Int.reduceNeg, Int.reduceEq, Nat.reduceMod, forall_eq_or_imp, forall_eq, forall_const, cond_true, cond_false, decide_true, decide_false, true_imp_iff, implies_true, Int.cast_ofNat_Int, forall_eq']; done)
    any_goals (simp only [↓EVP0, EVQ0, EVQ1, EVQ2, EVQ3, EVQ4, EVA, EVK, EVF,EVFT, ↓reduceIte, Nat.reduceEqDiff, Nat.reduceAdd, Nat.reduceSub, Nat.reduceMul, Nat.reduceLT, Nat.reduceLeDiff, reduceCtorEq, Int.reduceToNat, Int.reduceLT, Int.reduceLE, Int.reduceAdd, Int.reduceSub, Int.reduceMul, Int.reduceNeg, Int.reduceEq, Nat.reduceMod, forall_eq_or_imp, forall_eq, forall_const, cond_true, cond_false, decide_true, decide_false, true_imp_iff, implies_true, Int.cast_ofNat_Int, forall_eq']; exact hrep)
    all_goals simp only [↓EVP0, EVQ0, EVQ1, EVQ2, EVQ3, EVQ4, EVA, EVK, EVF,EVFT, ↓reduceIte, Nat.reduceEqDiff, Nat.reduceAdd, Nat.reduceSub, Nat.reduceMul, Nat.reduceLT, Nat.reduceLeDiff, reduceCtorEq, Int.reduceToNat, Int.reduceLT, Int.reduceLE, Int.reduceAdd, Int.reduceSub, Int.reduceMul, Int.reduceNeg, Int.reduceEq, Nat.reduceMod, forall_eq_or_imp, forall_eq, forall_const, cond_true, cond_false, decide_true, decide_false, true_imp_iff, implies_true, Int.cast_ofNat_Int, forall_eq']
    all_goals (refine lops0_ge_on ?_; simp only [↓EVP0, EVQ0, EVQ1, EVQ2, EVQ3, EVQ4, EVA, EVK, EVF,EVFT, ↓reduceIte, Nat.reduceEqDiff, Nat.reduceAdd, Nat.reduceSub, Nat.reduceMul, Nat.reduceLT, Nat.reduceLeDiff, reduceCtorEq, Int.reduceToNat, Int.reduceLT, Int.reduceLE, Int.reduceAdd, Int.reduceSub, Int.reduceMul, Int.reduceNeg, Int.reduceEq, Nat.reduceMod, forall_eq_or_imp, forall_eq, forall_const, cond_true, cond_false, decide_true, decide_false, true_imp_iff, implies_true, Int.cast_ofNat_Int, forall_eq'])
    all_goals (refine callK_ro h5 ?_ ?_)
    any_goals (simp only [↓EVP0, EVQ0, EVQ1, EVQ2, EVQ3, EVQ4, EVA, EVK, EVF,EVFT, ↓reduceIte, Nat.reduceEqDiff, Nat.reduceAdd, Nat.reduceSub, Nat.reduceMul, Nat.reduceLT, Nat.reduceLeDiff, reduceCtorEq, Int.reduceToNat, Int.reduceLT, Int.reduceLE, Int.reduceAdd, Int.reduceSub, Int.reduceMul, Int.reduceNeg, Int.reduceEq, Nat.reduceMod, forall_eq_or_imp, forall_eq, forall_const, cond_true, cond_false, decide_true, decide_false, true_imp_iff, implies_true, Int.cast_ofNat_Int, forall_eq']; done)
    all_goals simp only [↓EVP0, EVQ0, EVQ1, EVQ2, EVQ3, EVQ4, EVA, EVK, EVF,EVFT, ↓reduceIte, Nat.reduceEqDiff, Nat.reduceAdd, Nat.reduceSub, Nat.reduceMul, Nat.reduceLT, Nat.reduceLeDiff, reduceCtorEq, Int.reduceToNat, Int.reduceLT, Int.reduceLE, Int.reduceAdd, Int.reduceSub, Int.reduceMul, Int.reduceNeg, Int.reduceEq, Nat.reduceMod, forall_eq_or_imp, forall_eq, forall_const, cond_true, cond_false, decide_true, decide_false, true_imp_iff, implies_true, Int.cast_ofNat_Int, forall_eq']
    all_goals (refine lops_ge_imp ?_; simp only [↓EVP0, EVQ0, EVQ1, EVQ2, EVQ3, EVQ4, EVA, EVK, EVF,EVFT, ↓reduceIte, Nat.reduceEqDiff, Nat.reduceAdd, Nat.reduceSub, Nat.reduceMul, Nat.reduceLT, Nat.reduceLeDiff, reduceCtorEq, Int.reduceToNat, Int.reduceLT, Int.reduceLE, Int.reduceAdd, Int.reduceSub, Int.reduceMul, Int.reduceNeg, Int.reduceEq, Nat.reduceMod, forall_eq_or_imp, forall_eq, forall_const, cond_true, cond_false, decide_true, decide_false, true_imp_iff, implies_true, Int.cast_ofNat_Int, forall_eq'])
    all_goals (refine gCallK_ro _ (fun _ => h8) (fun _ => ?_) ?_)
    all_goals simp only [↓EVP0, EVQ0, EVQ1, EVQ2, EVQ3, EVQ4, EVA, EVK, EVF,EVFT, ↓reduceIte, Nat.reduceEqDiff, Nat.reduceAdd, Nat.reduceSub, Nat.reduceMul, Nat.reduceLT, Nat.reduceLeDiff, reduceCtorEq, Int.reduceToNat, Int.reduceLT, Int.reduceLE, Int.reduceAdd, Int.reduceSub, Int.reduceMul, Int.reduceNeg, Int.reduceEq, Nat.reduceMod, forall_eq_or_imp, forall_eq, forall_const, cond_true, cond_false, decide_true, decide_false, true_imp_iff, implies_true, Int.cast_ofNat_Int, forall_eq']
  · have hfr : folE p l t x w = folR p l t x w := by
      unfold folE folR
      rw [if_pos ⟨ho, by rw [validT_eq, decide_eq_true hv, hr]; rfl⟩]
    have h9 := h9 hv hr
    rw [hfr]
    rw [hr] at h5
    rw [ho] at h7
    have h10 := h10 (folR p l t x w).1 (folR p l t x w).1
    rw [decide_eq_true rfl] at h10
    have h11 := h11 ho hr
    generalize folR p l t x w = F at *
    refine ⟨⟨hm, ?_⟩, ⟨hm, ?_⟩, hm, ?_⟩
    all_goals (refine callK_frz h7 ?_ ?_ ?_)
    any_goals (simp only [↓EVP0, EVQ0, EVQ1, EVQ2, EVQ3, EVQ4, EVA, EVK, EVF,EVFT, ↓reduceIte, Nat.reduceEqDiff, Nat.reduceAdd, Nat.reduceSub, Nat.reduceMul, Nat.reduceLT, Nat.reduceLeDiff, reduceCtorEq, Int.reduceToNat, Int.reduceLT, Int.reduceLE, Int.reduceAdd, Int.reduceSub, Int.reduceMul, Int.reduceNeg, Int.reduceEq, Nat.reduceMod, forall_eq_or_imp, forall_eq, forall_const, cond_true, cond_false, decide_true, decide_false, true_imp_iff, implies_true, Int.cast_ofNat_Int, forall_eq']; done)
    any_goals (simp only [↓EVP0, EVQ0, EVQ1, EVQ2, EVQ3, EVQ4, EVA, EVK, EVF,EVFT, ↓reduceIte, Nat.reduceEqDiff, Nat.reduceAdd, Nat.reduceSub, Nat.reduceMul, Nat.reduceLT, Nat.reduceLeDiff, reduceCtorEq, Int.reduceToNat, Int.reduceLT, Int.reduceLE, Int.reduceAdd, Int.reduceSub, Int.reduceMul, Int.reduceNeg, Int.reduceEq, Nat.reduceMod, forall_eq_or_imp, forall_eq, forall_const, cond_true, cond_false, decide_true, decide_false, true_imp_iff, implies_true, Int.cast_ofNat_Int, forall_eq']; exact hrep)
    all_goals simp only [↓EVP0, EVQ0, EVQ1, EVQ2, EVQ3, EVQ4, EVA, EVK, EVF,EVFT, ↓reduceIte, Nat.reduceEqDiff, Nat.reduceAdd, Nat.reduceSub, Nat.reduceMul, Nat.reduceLT, Nat.reduceLeDiff, reduceCtorEq, Int.reduceToNat, Int.reduceLT, Int.reduceLE, Int.reduceAdd, Int.reduceSub, Int.reduceMul, Int.reduceNeg, Int.reduceEq, Nat.reduceMod, forall_eq_or_imp, forall_eq, forall_const, cond_true, cond_false, decide_true, decide_false, true_imp_iff, implies_true, Int.cast_ofNat_Int, forall_eq']
    all_goals (refine lops0_ge_on ?_; simp only [↓EVP0, EVQ0, EVQ1, EVQ2, EVQ3, EVQ4, EVA, EVK, EVF,EVFT, ↓reduceIte, Nat.reduceEqDiff, Nat.reduceAdd, Nat.reduceSub, Nat.reduceMul, Nat.reduceLT, Nat.reduceLeDiff, reduceCtorEq, Int.reduceToNat, Int.reduceLT, Int.reduceLE, Int.reduceAdd, Int.reduceSub, Int.reduceMul, Int.reduceNeg, Int.reduceEq, Nat.reduceMod, forall_eq_or_imp, forall_eq, forall_const, cond_true, cond_false, decide_true, decide_false, true_imp_iff, implies_true, Int.cast_ofNat_Int, forall_eq'])
    all_goals (refine callK_ro h5 ?_ ?_)
    any_goals (simp only [↓EVP0, EVQ0, EVQ1, EVQ2, EVQ3, EVQ4, EVA, EVK, EVF,EVFT, ↓reduceIte, Nat.reduceEqDiff, Nat.reduceAdd, Nat.reduceSub, Nat.reduceMul, Nat.reduceLT, Nat.reduceLeDiff, reduceCtorEq, Int.reduceToNat, Int.reduceLT, Int.reduceLE, Int.reduceAdd, Int.reduceSub, Int.reduceMul, Int.reduceNeg, Int.reduceEq, Nat.reduceMod, forall_eq_or_imp, forall_eq, forall_const, cond_true, cond_false, decide_true, decide_false, true_imp_iff, implies_true, Int.cast_ofNat_Int, forall_eq']; done)
    all_goals simp only [↓EVP0, EVQ0, EVQ1, EVQ2, EVQ3, EVQ4, EVA, EVK, EVF,EVFT, ↓reduceIte, Nat.reduceEqDiff, Nat.reduceAdd, Nat.reduceSub, Nat.reduceMul, Nat.reduceLT, Nat.reduceLeDiff, reduceCtorEq, Int.reduceToNat, Int.reduceLT, Int.reduceLE, Int.reduceAdd, Int.reduceSub, Int.reduceMul, Int.reduceNeg, Int.reduceEq, Nat.reduceMod, forall_eq_or_imp, forall_eq, forall_const, cond_true, cond_false, decide_true, decide_false, true_imp_iff, implies_true, Int.cast_ofNat_Int, forall_eq']
    all_goals (refine callK_ro h9 ?_ ?_)
    any_goals (simp only [↓EVP0, EVQ0, EVQ1, EVQ2, EVQ3, EVQ4, EVA, EVK, EVF,EVFT, ↓reduceIte, Nat.reduceEqDiff, Nat.reduceAdd, Nat.reduceSub, Nat.reduceMul, Nat.reduceLT, Nat.reduceLeDiff, reduceCtorEq, Int.reduceToNat, Int.reduceLT, Int.reduceLE, Int.reduceAdd, Int.reduceSub, Int.reduceMul, Int.reduceNeg, Int.reduceEq, Nat.reduceMod, forall_eq_or_imp, forall_eq, forall_const, cond_true, cond_false, decide_true, decide_false, true_imp_iff, implies_true, Int.cast_ofNat_Int, forall_eq']; done)
    all_goals simp only [↓EVP0, EVQ0, EVQ1, EVQ2, EVQ3, EVQ4, EVA, EVK, EVF,EVFT, ↓reduceIte, Nat.reduceEqDiff, Nat.reduceAdd, Nat.reduceSub, Nat.reduceMul, Nat.reduceLT, Nat.reduceLeDiff, reduceCtorEq, Int.reduceToNat, Int.reduceLT, Int.reduceLE, Int.reduceAdd, Int.reduceSub, Int.reduceMul, Int.reduceNeg, Int.reduceEq, Nat.reduceMod, forall_eq_or_imp, forall_eq, forall_const, cond_true, cond_false, decide_true, decide_false, true_imp_iff, implies_true, Int.cast_ofNat_Int, forall_eq']
    all_goals ((first | refine lopsQ_gcall ?_ | refine lopsQ_gecl ?_); (simp only [↓EVP0, EVQ0, EVQ1, EVQ2, EVQ3, EVQ4, EVA, EVK, EVF,EVFT, ↓reduceIte, Nat.reduceEqDiff, Nat.reduceAdd, Nat.reduceSub, Nat.reduceMul, Nat.reduceLT, Nat.reduceLeDiff, reduceCtorEq, Int.reduceToNat, Int.reduceLT, Int.reduceLE, Int.reduceAdd, Int.reduceSub, Int.reduceMul, Int.reduceNeg, Int.reduceEq, Nat.reduceMod, forall_eq_or_imp, forall_eq, forall_const, cond_true, cond_false, decide_true, decide_false, true_imp_iff, implies_true, Int.cast_ofNat_Int, forall_eq']))
    all_goals (first | refine gCallK_ro _ (fun _ => h10) (fun _ => ?_) ?_ | refine geCallK_ro _ (fun _ => h10) (fun _ => ?_) ?_)
    any_goals (simp only [↓EVP0, EVQ0, EVQ1, EVQ2, EVQ3, EVQ4, EVA, EVK, EVF,EVFT, ↓reduceIte, Nat.reduceEqDiff, Nat.reduceAdd, Nat.reduceSub, Nat.reduceMul, Nat.reduceLT, Nat.reduceLeDiff, reduceCtorEq, Int.reduceToNat, Int.reduceLT, Int.reduceLE, Int.reduceAdd, Int.reduceSub, Int.reduceMul, Int.reduceNeg, Int.reduceEq, Nat.reduceMod, forall_eq_or_imp, forall_eq, forall_const, cond_true, cond_false, decide_true, decide_false, true_imp_iff, implies_true, Int.cast_ofNat_Int, forall_eq']; done)
    all_goals simp only [↓EVP0, EVQ0, EVQ1, EVQ2, EVQ3, EVQ4, EVA, EVK, EVF,EVFT, ↓reduceIte, Nat.reduceEqDiff, Nat.reduceAdd, Nat.reduceSub, Nat.reduceMul, Nat.reduceLT, Nat.reduceLeDiff, reduceCtorEq, Int.reduceToNat, Int.reduceLT, Int.reduceLE, Int.reduceAdd, Int.reduceSub, Int.reduceMul, Int.reduceNeg, Int.reduceEq, Nat.reduceMod, forall_eq_or_imp, forall_eq, forall_const, cond_true, cond_false, decide_true, decide_false, true_imp_iff, implies_true, Int.cast_ofNat_Int, forall_eq']
    all_goals ((first | refine lopsQ_gcall ?_ | refine lopsQ_gecl ?_); (simp only [↓EVP0, EVQ0, EVQ1, EVQ2, EVQ3, EVQ4, EVA, EVK, EVF,EVFT, ↓reduceIte, Nat.reduceEqDiff, Nat.reduceAdd, Nat.reduceSub, Nat.reduceMul, Nat.reduceLT, Nat.reduceLeDiff, reduceCtorEq, Int.reduceToNat, Int.reduceLT, Int.reduceLE, Int.reduceAdd, Int.reduceSub, Int.reduceMul, Int.reduceNeg, Int.reduceEq, Nat.reduceMod, forall_eq_or_imp, forall_eq, forall_const, cond_true, cond_false, decide_true, decide_false, true_imp_iff, implies_true, Int.cast_ofNat_Int, forall_eq']))
    all_goals (first | refine gCallK_ro _ (fun _ => h8) (fun _ => ?_) ?_ | refine geCallK_ro _ (fun _ => h8) (fun _ => ?_) ?_)
    any_goals (simp only [↓EVP0, EVQ0, EVQ1, EVQ2, EVQ3, EVQ4, EVA, EVK, EVF,EVFT, ↓reduceIte, Nat.reduceEqDiff, Nat.reduceAdd, Nat.reduceSub, Nat.reduceMul, Nat.reduceLT, Nat.reduceLeDiff, reduceCtorEq, Int.reduceToNat, Int.reduceLT, Int.reduceLE, Int.reduceAdd, Int.reduceSub, Int.reduceMul, Int.reduceNeg, Int.reduceEq, Nat.reduceMod, forall_eq_or_imp, forall_eq, forall_const, cond_true, cond_false, decide_true, decide_false, true_imp_iff, implies_true, Int.cast_ofNat_Int, forall_eq']; done)
    all_goals simp only [↓EVP0, EVQ0, EVQ1, EVQ2, EVQ3, EVQ4, EVA, EVK, EVF,EVFT, ↓reduceIte, Nat.reduceEqDiff, Nat.reduceAdd, Nat.reduceSub, Nat.reduceMul, Nat.reduceLT, Nat.reduceLeDiff, reduceCtorEq, Int.reduceToNat, Int.reduceLT, Int.reduceLE, Int.reduceAdd, Int.reduceSub, Int.reduceMul, Int.reduceNeg, Int.reduceEq, Nat.reduceMod, forall_eq_or_imp, forall_eq, forall_const, cond_true, cond_false, decide_true, decide_false, true_imp_iff, implies_true, Int.cast_ofNat_Int, forall_eq']
    all_goals ((first | refine lopsQ_gcall ?_ | refine lopsQ_gecl ?_); (simp only [↓EVP0, EVQ0, EVQ1, EVQ2, EVQ3, EVQ4, EVA, EVK, EVF,EVFT, ↓reduceIte, Nat.reduceEqDiff, Nat.reduceAdd, Nat.reduceSub, Nat.reduceMul, Nat.reduceLT, Nat.reduceLeDiff, reduceCtorEq, Int.reduceToNat, Int.reduceLT, Int.reduceLE, Int.reduceAdd, Int.reduceSub, Int.reduceMul, Int.reduceNeg, Int.reduceEq, Nat.reduceMod, forall_eq_or_imp, forall_eq, forall_const, cond_true, cond_false, decide_true, decide_false, true_imp_iff, implies_true, Int.cast_ofNat_Int, forall_eq']))
    all_goals (first | refine gCallK_ro _ (fun _ => h11) (fun _ => ?_) ?_ | refine geCallK_ro _ (fun _ => h11) (fun _ => ?_) ?_)
    any_goals (simp only [↓EVP0, EVQ0, EVQ1, EVQ2, EVQ3, EVQ4, EVA, EVK, EVF,EVFT, ↓reduceIte, Nat.reduceEqDiff, Nat.reduceAdd, Nat.reduceSub, Nat.reduceMul, Nat.reduceLT, Nat.reduceLeDiff, reduceCtorEq, Int.reduceToNat, Int.reduceLT, Int.reduceLE, Int.reduceAdd, Int.reduceSub, Int.reduceMul, Int.reduceNeg, Int.reduceEq, Nat.reduceMod, forall_eq_or_imp, forall_eq, forall_const, cond_true, cond_false, decide_true, decide_false, true_imp_iff, implies_true, Int.cast_ofNat_Int, forall_eq']; done)
    all_goals simp only [↓EVP0, EVQ0, EVQ1, EVQ2, EVQ3, EVQ4, EVA, EVK, EVF,EVFT, ↓reduceIte, Nat.reduceEqDiff, Nat.reduceAdd, Nat.reduceSub, Nat.reduceMul, Nat.reduceLT, Nat.reduceLeDiff, reduceCtorEq, Int.reduceToNat, Int.reduceLT, Int.reduceLE, Int.reduceAdd, Int.reduceSub, Int.reduceMul, Int.reduceNeg, Int.reduceEq, Nat.reduceMod, forall_eq_or_imp, forall_eq, forall_const, cond_true, cond_false, decide_true, decide_false, true_imp_iff, implies_true, Int.cast_ofNat_Int, forall_eq']
    all_goals (cases reachB p l t <;> rfl)
end Go.Proofs.YtcdepkflghcjpaaDoor
namespace Go.Proofs.YtcdepkflghcjpaaDoor
set_option linter.unusedSimpArgs false
set_option linter.unusedVariables false
open Go.RowKit
set_option maxRecDepth 100000

theorem Im.rslL {z n : Nat} {f g : Nat → List LV} (h : ∀ i, i < n → ImL (f i) (g i)) : Im (.rsl z n f) (.rsl z n g) := by
  intro R v hr
  cases hr with
  | rsl _ _ _ a cap b o w hc hm ha hf hcell hv hp =>
    refine .rsl _ _ _ a cap b o w hc hm ha (fun i hi => by rw [← (ImL_get (h i hi)).1]; exact hf i hi) hcell (fun i j c hi hj => ?_) hp
    obtain ⟨x, hx, him⟩ := (ImL_get (h i hi)).2 j c hj
    exact him _ _ (hv i j x hi hx)
theorem sl_i64d {d : Nat} {t e : TypeId} (ht : Tryd.prog.underlying t = some (.slice e)) (he : Tryd.prog.underlying e = some (.int .i64)) (hc : Tryd.prog.cellsOf e = 1) {lv : LV} (h : fitT Tryd.prog d t [lv]) : ∃ l : List Int, Im lv (intsV l) ∧ (∀ x, x ∈ l → In64 x) ∧ l.length ≤ maxLen := by
  obtain ⟨d', n, f, h1, h2, h3⟩ := fit_sl ht h
  have hall : ∀ i, ∃ x : Int, i < n → f i = [.sc (.int .i64 x)] ∧ In64 x := by
    intro i
    by_cases hi : i < n
    · obtain ⟨x, h4, h5⟩ := fit_i64 he (h3 i hi)
      exact ⟨x, fun _ => ⟨h4, h5⟩⟩
    · exact ⟨0, fun h => absurd h hi⟩
  obtain ⟨g, hg⟩ := Classical.axiomOfChoice hall
  simp only [List.cons.injEq, and_true] at h1
  subst h1
  refine ⟨listOf n g, ?_, fun x hx => ?_, by rw [listOf_len]; exact h2⟩
  · unfold intsV
    rw [hc, listOf_len]
    refine Im.rsl fun i hi => ?_
    rw [(hg i hi).1]
    show _ = [LV.sc (.int .i64 ((listOf n g).getD i 0))]
    rw [listOf_get n g 0 hi]
  · obtain ⟨i, hi, rfl⟩ := listOf_mem hx
    exact (hg i hi).2
theorem sl_one {d : Nat} {t e : TypeId} (ht : Tryd.prog.underlying t = some (.slice e)) {ls : List LV} (h : fitT Tryd.prog d t ls) : ∃ lv, ls = [lv] := by
  obtain ⟨_, n, f, h1, _⟩ := fit_sl ht h
  exact ⟨_, h1⟩
theorem arg_lists {lv : LV} (h : fitA Tryd.prog 52 lv) : ∃ l : Ls, Im lv (llV l) ∧ (∀ r, r ∈ l → (∀ x, x ∈ r → In64 x) ∧ r.length ≤ maxLen) ∧ l.length ≤ maxLen := by
  have h0 := arg_cell (by kernel_rfl) h
  obtain ⟨d', n, f, h1, h2, h3⟩ := fit_sl Tryd.underlying52 h0
  have hall : ∀ i, ∃ l : List Int, i < n → ImL (f i) [intsV l] ∧ (∀ x, x ∈ l → In64 x) ∧ l.length ≤ maxLen := by
    intro i
    by_cases hi : i < n
    · obtain ⟨x, hx⟩ := sl_one Tryd.underlying26 (h3 i hi)
      have h4 := h3 i hi
      rw [hx] at h4
      obtain ⟨l, k1, k2, k3⟩ := sl_i64d Tryd.underlying26 Tryd.underlying3 (by kernel_rfl) h4
      exact ⟨l, fun _ => ⟨by rw [hx]; exact ⟨k1, trivial⟩, k2, k3⟩⟩
    · exact ⟨[], fun h => absurd h hi⟩
  obtain ⟨g, hg⟩ := Classical.axiomOfChoice hall
  simp only [List.cons.injEq, and_true] at h1
  subst h1
  refine ⟨listOf n g, ?_, fun r hr => ?_, by rw [listOf_len]; exact h2⟩
  · unfold llV
    rw [show Tryd.prog.cellsOf 26 = 1 by kernel_rfl, listOf_len]
    refine Im.rslL fun i hi => ?_
    show ImL (f i) [intsV ((listOf n g).getD i [])]
    rw [listOf_get n g [] hi]
    exact (hg i hi).1
  · obtain ⟨i, hi, rfl⟩ := listOf_mem hr
    exact (hg i hi).2
end Go.Proofs.YtcdepkflghcjpaaDoor
