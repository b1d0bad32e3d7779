/- Chapter 19: following a table, step by step; Chapter 19: following the table of an order takes the chosen path; Chapter 19: the rest of a path that is followed is the path from the node that is reached; Chapter 19: following the table of an order takes the chosen path; Chapter 19: which tables lead from any node to any other one; Chapter 19: the table of the order of the same cables reaches every node with a level. Conditions: none. -/
import Derived.Test.YtcdepkflghcjpaaDoorMH
namespace Go.Proofs.YtcdepkflghcjpaaDoor
set_option linter.unusedSimpArgs false
set_option linter.unusedVariables false
open Go.RowKit
set_option maxRecDepth 20000

abbrev Rf := Nat → Bool → Bool
def rfF (r : Rf) (i : Nat) : List LV := [.sc (.bool (r i false)), .sc (.bool (r i true))]
def rfSet (r : Rf) (x : Nat) (b : Bool) : Rf := fun i c => if i = x ∧ c = b then true else r i c
def rfCnt (n : Nat) (r : Rf) : Nat := ((List.range n).map fun i => (if r i false = true then 0 else 1) + (if r i true = true then 0 else 1)).sum
def tabE (t : Tb) (x : Nat) (b : Bool) (w : Nat) : Int := (bif b then (t.getD x ([], [])).2 else (t.getD x ([], [])).1).getD w 0
def fol (p : Pl) (l : List Int) (t : Tb) (w : Nat) : Nat → Rf → Nat → Bool → List Int → List Int × Int
  | 0, _, _, _, _ => ([], 11)
  | k + 1, r, x, b, path => if r x b = true then ([], 11) else if tabE t x b w = -2 then (path, 0) else if tabE t x b w = -1 then ([], 12) else
      fol p l t w k (rfSet r x b) (acrE (p.cs.getD (tabE t x b w).toNat default) x).1.toNat (b || !aboveB l (acrE (p.cs.getD (tabE t x b w).toNat default) x).1 x) (path ++ [tabE t x b w])
theorem sum_map_lt {n x : Nat} (hx : x < n) {f g : Nat → Nat} (h1 : ∀ i, i ≠ x → f i = g i) (h2 : f x + 1 = g x) : ((List.range n).map f).sum + 1 = ((List.range n).map g).sum := by
  induction n with
  | zero => omega
  | succ n ih =>
    rw [List.range_succ, List.map_append, List.map_append, List.sum_append, List.sum_append]
    simp only [List.map_cons, List.map_nil, List.sum_cons, List.sum_nil, Nat.add_zero]
    by_cases e : x = n
    · subst e
      have : (List.range x).map f = (List.range x).map g := List.map_congr_left fun i hi => h1 i (by have := List.mem_range.1 hi; omega)
      rw [this]; omega
    · have := ih (by omega)
      rw [h1 n (by omega)]; omega
theorem rfCnt_set {n : Nat} {r : Rf} {x : Nat} {b : Bool} (hx : x < n) (hr : r x b = false) : rfCnt n (rfSet r x b) + 1 = rfCnt n r := by
  unfold rfCnt
  refine sum_map_lt hx (fun i hi => ?_) ?_
  · unfold rfSet; simp [hi]
  · unfold rfSet
    cases b <;> simp [hr] <;> omega
theorem rf_row {n : Nat} (r : Rf) (y : Nat) (b : Bool) : (LO.row 2 n fun j => if j = y then (rfF r y).set (bif b then 1 else 0) (.sc (.bool true)) else rfF r j) = LO.row 2 n (rfF (rfSet r y b)) := by
  congr 1
  funext j
  by_cases e : j = y
  · subst e
    rw [if_pos rfl]
    cases b
    · show [LV.sc (.bool true), .sc (.bool (r j true))] = _
      unfold rfF rfSet; simp
    · show [LV.sc (.bool (r j false)), .sc (.bool true)] = _
      unfold rfF rfSet; simp
  · rw [if_neg e]
    unfold rfF rfSet; simp [e]
theorem ev_follow (p : Pl) (hv : validE p = 0) (l : List Int) (t : Tb) (ht : validT p t = true) (x w : Int) (hx : inN p.ns.length x) (hw : inN p.ns.length w) :
    Ev Tryd.prog 48 [plV p, .agg [intsV l], tabV t, .sc (.int .i64 x), .sc (.int .i64 w)] (.tup [intsV (fol p l t w.toNat (rfCnt p.ns.length (fun _ _ => false) + 1) (fun _ _ => false) x.toNat false []).1, .sc (.int .i64 (fol p l t w.toNat (rfCnt p.ns.length (fun _ _ => false) + 1) (fun _ _ => false) x.toNat false []).2)]) := by
  have h1 := fun c y => ev_across19 (p.cs.getD c default) y
  have h2 := fun a b => ev_above l a b
  have h16 := (valid_of hv).n16
  unfold cbL at h1
  unfold plV intsV tabV at *
  refine ev_fn Tryd.func48 comp48 (show 5 ≤ Tryd.f48.ntmps by decide) ?_; unfold cf48 rf48; simp only [↓EVP0, EVQ0, EVQ1, EVQ2, EVQ3, EVQ4, EVA, EVK, EVF,EVFT, ↓reduceIte, Nat.reduceEqDiff, Nat.reduceAdd, Nat.reduceSub, Nat.reduceMul, Nat.reduceLT, Nat.reduceLeDiff, reduceCtorEq, Int.reduceToNat, Int.reduceLT, Int.reduceLE, Int.reduceAdd, Int.reduceSub, Int.reduceMul, Int.reduceNeg, Int.reduceEq, Nat.reduceMod, forall_eq_or_imp, forall_eq, forall_const, cond_true, cond_false, decide_true, decide_false, true_imp_iff, implies_true, Int.cast_ofNat_Int, forall_eq']
  generalize hR : fol p l t w.toNat (rfCnt p.ns.length (fun _ _ => false) + 1) (fun _ _ => false) x.toNat false [] = R
  intro _
  refine ⟨by unfold mksC; omega, ?_⟩
  refine lwp_loop (α := Rf × Nat × Bool × List Int) (fun q => q.2.1 < p.ns.length ∧ q.2.2.2.length + rfCnt p.ns.length q.1 = rfCnt p.ns.length (fun _ _ => false) ∧ fol p l t w.toNat (rfCnt p.ns.length q.1 + 1) q.1 q.2.1 q.2.2.1 q.2.2.2 = R)
    (fun q => [(4, .sc (.int .i64 w)), (5, .ptr 0 0 0 0 0), (6, .ptr 1 0 0 0 0), (7, .ptr 2 0 0 0 0), (12, .sl 3 q.2.2.2.length 1 0 q.2.2.2.length), (13, .sl 4 0 2 0 p.ns.length), (14, .sc (.int .i64 q.2.1)), (15, .sc (.int .i64 (if q.2.2.1 = true then 1 else 0)))])
    (fun q => [(0, .box [.rsl 3 p.ns.length (ndsF p.ns), .rsl 6 p.cs.length (cbsF p.cs)]), (0, .box [.rsl 1 l.length (intsF l)]), (0, .box [.rsl 2 t.length (tabF t)]), (q.2.2.2.length, .ints q.2.2.2), (0, .row 2 p.ns.length (rfF q.1))]) (fun q => rfCnt p.ns.length q.1) (fun _ _ => false, x.toNat, false, []) ⟨by unfold inN at hx; simp only; omega, by simp, hR⟩ ?_ (fun _ => Nat.zero_le _) ?_
  · simp only [↓EVP0, EVQ0, EVQ1, EVQ2, EVQ3, EVQ4, EVA, EVK, EVF,EVFT, ↓reduceIte, Nat.reduceEqDiff, Nat.reduceAdd, Nat.reduceSub, Nat.reduceMul, Nat.reduceLT, Nat.reduceLeDiff, reduceCtorEq, Int.reduceToNat, Int.reduceLT, Int.reduceLE, Int.reduceAdd, Int.reduceSub, Int.reduceMul, Int.reduceNeg, Int.reduceEq, Nat.reduceMod, forall_eq_or_imp, forall_eq, forall_const, cond_true, cond_false, decide_true, decide_false, true_imp_iff, implies_true, Int.cast_ofNat_Int, forall_eq']
    unfold inN at hx
    exact ⟨by omega, rfl, fun i _ => ⟨trivial, trivial, trivial⟩⟩
  have htl : t.length = p.ns.length := by
    unfold validT at ht
    simp only [Bool.and_eq_true, decide_eq_true_eq] at ht
    exact ht.2.1
  have hrows : ∀ y, y < p.ns.length → rowB19 p y (t.getD y ([], [])).1 = true ∧ rowB19 p y (t.getD y ([], [])).2 = true := by
    intro y hy
    unfold validT at ht
    simp only [Bool.and_eq_true, decide_eq_true_eq, List.all_eq_true] at ht
    exact ht.2.2 y (List.mem_range.2 (by omega))
  have hrow : ∀ y, y < p.ns.length → (t.getD y ([], [])).1.length = p.ns.length ∧ (t.getD y ([], [])).2.length = p.ns.length := by
    intro y hy
    obtain ⟨h3, h4⟩ := hrows y hy
    unfold rowB19 at h3 h4
    simp only [Bool.and_eq_true, decide_eq_true_eq] at h3 h4
    exact ⟨h3.1, h4.1⟩
  have hpe : ∀ y b, y < p.ns.length → permB p (y : Nat) (w.toNat : Nat) (tabE t y b w.toNat) = true := by
    intro y b hy
    obtain ⟨h3, h4⟩ := hrows y hy
    obtain ⟨h5, h6⟩ := hrow y hy
    unfold rowB19 at h3 h4
    simp only [Bool.and_eq_true, decide_eq_true_eq, List.all_eq_true] at h3 h4
    have hwn : w.toNat < p.ns.length := by unfold inN at hw; omega
    cases b
    · exact h3.2 w.toNat (List.mem_range.2 (by omega))
    · exact h4.2 w.toNat (List.mem_range.2 (by omega))
  have hperm : ∀ y b, y < p.ns.length → (tabE t y b w.toNat ≠ -2 → tabE t y b w.toNat ≠ -1 → 0 ≤ tabE t y b w.toNat ∧ tabE t y b w.toNat < p.cs.length ∧ (acrE (p.cs.getD (tabE t y b w.toNat).toNat default) (y : Int)).2 = true) := by
    intro y b hy n2 n1
    have h7 := hpe y b hy
    unfold permB at h7
    rw [decide_eq_false n2, decide_eq_false n1, Bool.or_false, Bool.and_false, Bool.false_or] at h7
    cases e : decide ((y : Int) = (w.toNat : Nat))
    · rw [e, cond_false] at h7
      simp only [Bool.and_eq_true, decide_eq_true_eq] at h7
      exact h7
    · rw [e, cond_true] at h7; simp at h7
  unfold inN at hw
  have hcnt : rfCnt p.ns.length (fun _ _ => false) ≤ 32 := by
    have : ∀ n, rfCnt n (fun _ _ => false) = 2 * n := by
      intro n
      induction n with
      | zero => rfl
      | succ n ih =>
        unfold rfCnt at *
        rw [List.range_succ, List.map_append, List.sum_append, ih]
        simp
        omega
    rw [this]; omega
  rintro ⟨r, y, b, path⟩ ⟨i1, i2, i3⟩
  simp only at i1 i2 i3 ⊢
  rcases Bool.eq_false_or_eq_true b with rfl | rfl
  · have hcell : (List.drop 1 (rfF r y)).getD 0 LV.any = .sc (.bool (r y true)) := rfl
    have p1 := hperm y true i1
    have hrl := (hrow y i1).2
    have hte : tabE t y true w.toNat = (t.getD y ([], [])).2.getD w.toNat 0 := rfl
    unfold fol at i3
    rw [hte] at i3 p1
    generalize hc : (t.getD y ([], [])).2.getD w.toNat 0 = c at i3 p1
    unfold lb48_0
    simp only [hcell, ↓EVP0, EVQ0, EVQ1, EVQ2, EVQ3, EVQ4, EVA, EVK, EVF,EVFT, ↓reduceIte, Nat.reduceEqDiff, Nat.reduceAdd, Nat.reduceSub, Nat.reduceMul, Nat.reduceLT, Nat.reduceLeDiff, reduceCtorEq, Int.reduceToNat, Int.reduceLT, Int.reduceLE, Int.reduceAdd, Int.reduceSub, Int.reduceMul, Int.reduceNeg, Int.reduceEq, Nat.reduceMod, forall_eq_or_imp, forall_eq, forall_const, cond_true, cond_false, decide_true, decide_false, true_imp_iff, implies_true, Int.cast_ofNat_Int, forall_eq']
    rw [hc, hrl]
    refine ⟨⟨by omega, by omega⟩, ⟨by decide, i1, rfl⟩, fun hr => ?_, fun hr => ⟨⟨by omega, by omega⟩, ⟨i1, rfl⟩, ⟨by omega, by omega⟩, ⟨by omega, by omega⟩, fun h3 => ?_, fun h3 => ⟨fun h4 => ?_, fun h4 => ?_⟩⟩⟩
    · rw [if_pos hr] at i3
      rw [← i3]; exact ⟨rfl, rfl⟩
    · rw [if_neg (by rw [hr]; simp), if_pos (of_decide_eq_true h3)] at i3
      rw [← i3]; exact ⟨⟨rfl, Nat.le_refl _, fun i _ => rfl⟩, rfl⟩
    · rw [if_neg (by rw [hr]; simp), if_neg (of_decide_eq_false h3), if_pos (of_decide_eq_true h4)] at i3
      rw [← i3]; exact ⟨rfl, rfl⟩
    rw [if_neg (by rw [hr]; simp), if_neg (of_decide_eq_false h3), if_neg (of_decide_eq_false h4)] at i3
    obtain ⟨c1, c2, c3⟩ := p1 (of_decide_eq_false h3) (of_decide_eq_false h4)
    have hcs := rfCnt_set i1 hr
    refine ⟨Nat.le_refl _, by unfold appRoom; omega, ⟨c1, c2⟩, ?_⟩
    refine callK_ro (h1 c.toNat y) ?_ ?_
    · simp only [↓EVP0, EVQ0, EVQ1, EVQ2, EVQ3, EVQ4, EVA, EVK, EVF,EVFT, ↓reduceIte, Nat.reduceEqDiff, Nat.reduceAdd, Nat.reduceSub, Nat.reduceMul, Nat.reduceLT, Nat.reduceLeDiff, reduceCtorEq, Int.reduceToNat, Int.reduceLT, Int.reduceLE, Int.reduceAdd, Int.reduceSub, Int.reduceMul, Int.reduceNeg, Int.reduceEq, Nat.reduceMod, forall_eq_or_imp, forall_eq, forall_const, cond_true, cond_false, decide_true, decide_false, true_imp_iff, implies_true, Int.cast_ofNat_Int, forall_eq']
    simp only [↓EVP0, EVQ0, EVQ1, EVQ2, EVQ3, EVQ4, EVA, EVK, EVF,EVFT, ↓reduceIte, Nat.reduceEqDiff, Nat.reduceAdd, Nat.reduceSub, Nat.reduceMul, Nat.reduceLT, Nat.reduceLeDiff, reduceCtorEq, Int.reduceToNat, Int.reduceLT, Int.reduceLE, Int.reduceAdd, Int.reduceSub, Int.reduceMul, Int.reduceNeg, Int.reduceEq, Nat.reduceMod, forall_eq_or_imp, forall_eq, forall_const, cond_true, cond_false, decide_true, decide_false, true_imp_iff, implies_true, Int.cast_ofNat_Int, forall_eq']
    have hy := acr_in hv ⟨c1, c2⟩ c3
    generalize (acrE (p.cs.getD c.toNat default) y).1 = z at hy i3 ⊢
    refine callK_ro (h2 z y) ?_ ?_
    · simp only [↓EVP0, EVQ0, EVQ1, EVQ2, EVQ3, EVQ4, EVA, EVK, EVF,EVFT, ↓reduceIte, Nat.reduceEqDiff, Nat.reduceAdd, Nat.reduceSub, Nat.reduceMul, Nat.reduceLT, Nat.reduceLeDiff, reduceCtorEq, Int.reduceToNat, Int.reduceLT, Int.reduceLE, Int.reduceAdd, Int.reduceSub, Int.reduceMul, Int.reduceNeg, Int.reduceEq, Nat.reduceMod, forall_eq_or_imp, forall_eq, forall_const, cond_true, cond_false, decide_true, decide_false, true_imp_iff, implies_true, Int.cast_ofNat_Int, forall_eq']
    simp only [↓EVP0, EVQ0, EVQ1, EVQ2, EVQ3, EVQ4, EVA, EVK, EVF,EVFT, ↓reduceIte, Nat.reduceEqDiff, Nat.reduceAdd, Nat.reduceSub, Nat.reduceMul, Nat.reduceLT, Nat.reduceLeDiff, reduceCtorEq, Int.reduceToNat, Int.reduceLT, Int.reduceLE, Int.reduceAdd, Int.reduceSub, Int.reduceMul, Int.reduceNeg, Int.reduceEq, Nat.reduceMod, forall_eq_or_imp, forall_eq, forall_const, cond_true, cond_false, decide_true, decide_false, true_imp_iff, implies_true, Int.cast_ofNat_Int, forall_eq']
    have hzb : 0 ≤ z ∧ z < p.ns.length := by unfold inN at hy; exact hy
    refine ⟨fun hg => ⟨(rfSet r y true, z.toNat, (true || !aboveB l z y), path ++ [c]), ⟨by show z.toNat < _; omega, ?_, ?_⟩, ⟨⟨?_, ?_, ?_⟩, ⟨?_, ?_⟩, rf_row r y true, fun i _ => ⟨trivial, trivial, trivial⟩⟩, by show rfCnt _ (rfSet r y true) < _; omega⟩, fun hg => ⟨(rfSet r y true, z.toNat, (true || !aboveB l z y), path ++ [c]), ⟨by show z.toNat < _; omega, ?_, ?_⟩, ⟨⟨?_, ?_, ?_⟩, ⟨?_, ?_⟩, rf_row r y true, fun i _ => ⟨trivial, trivial, trivial⟩⟩, by show rfCnt _ (rfSet r y true) < _; omega⟩⟩
    all_goals simp only
    all_goals first
      | (rw [hcs]; exact i3)
      | (rw [hg]; rfl)
      | (rw [List.take_length])
      | (rw [List.length_append]; rfl)
      | (rw [List.length_append, List.length_singleton]; omega)
      | omega
      | rfl
  · have hcell : (rfF r y).getD 0 LV.any = .sc (.bool (r y false)) := rfl
    have p1 := hperm y false i1
    have hrl := (hrow y i1).1
    have hte : tabE t y false w.toNat = (t.getD y ([], [])).1.getD w.toNat 0 := rfl
    unfold fol at i3
    rw [hte] at i3 p1
    generalize hc : (t.getD y ([], [])).1.getD w.toNat 0 = c at i3 p1
    unfold lb48_0
    simp only [hcell, ↓EVP0, EVQ0, EVQ1, EVQ2, EVQ3, EVQ4, EVA, EVK, EVF,EVFT, ↓reduceIte, Nat.reduceEqDiff, Nat.reduceAdd, Nat.reduceSub, Nat.reduceMul, Nat.reduceLT, Nat.reduceLeDiff, reduceCtorEq, Int.reduceToNat, Int.reduceLT, Int.reduceLE, Int.reduceAdd, Int.reduceSub, Int.reduceMul, Int.reduceNeg, Int.reduceEq, Nat.reduceMod, forall_eq_or_imp, forall_eq, forall_const, cond_true, cond_false, decide_true, decide_false, true_imp_iff, implies_true, Int.cast_ofNat_Int, forall_eq']
    rw [hc, hrl]
    refine ⟨⟨by omega, by omega⟩, ⟨by decide, i1, rfl⟩, fun hr => ?_, fun hr => ⟨⟨by omega, by omega⟩, ⟨i1, rfl⟩, ⟨by omega, by omega⟩, ⟨by omega, by omega⟩, fun h3 => ?_, fun h3 => ⟨fun h4 => ?_, fun h4 => ?_⟩⟩⟩
    · rw [if_pos hr] at i3
      rw [← i3]; exact ⟨rfl, rfl⟩
    · rw [if_neg (by rw [hr]; simp), if_pos (of_decide_eq_true h3)] at i3
      rw [← i3]; exact ⟨⟨rfl, Nat.le_refl _, fun i _ => rfl⟩, rfl⟩
    · rw [if_neg (by rw [hr]; simp), if_neg (of_decide_eq_false h3), if_pos (of_decide_eq_true h4)] at i3
      rw [← i3]; exact ⟨rfl, rfl⟩
    rw [if_neg (by rw [hr]; simp), if_neg (of_decide_eq_false h3), if_neg (of_decide_eq_false h4)] at i3
    obtain ⟨c1, c2, c3⟩ := p1 (of_decide_eq_false h3) (of_decide_eq_false h4)
    have hcs := rfCnt_set i1 hr
    refine ⟨Nat.le_refl _, by unfold appRoom; omega, ⟨c1, c2⟩, ?_⟩
    refine callK_ro (h1 c.toNat y) ?_ ?_
    · simp only [↓EVP0, EVQ0, EVQ1, EVQ2, EVQ3, EVQ4, EVA, EVK, EVF,EVFT, ↓reduceIte, Nat.reduceEqDiff, Nat.reduceAdd, Nat.reduceSub, Nat.reduceMul, Nat.reduceLT, Nat.reduceLeDiff, reduceCtorEq, Int.reduceToNat, Int.reduceLT, Int.reduceLE, Int.reduceAdd, Int.reduceSub, Int.reduceMul, Int.reduceNeg, Int.reduceEq, Nat.reduceMod, forall_eq_or_imp, forall_eq, forall_const, cond_true, cond_false, decide_true, decide_false, true_imp_iff, implies_true, Int.cast_ofNat_Int, forall_eq']
    simp only [↓EVP0, EVQ0, EVQ1, EVQ2, EVQ3, EVQ4, EVA, EVK, EVF,EVFT, ↓reduceIte, Nat.reduceEqDiff, Nat.reduceAdd, Nat.reduceSub, Nat.reduceMul, Nat.reduceLT, Nat.reduceLeDiff, reduceCtorEq, Int.reduceToNat, Int.reduceLT, Int.reduceLE, Int.reduceAdd, Int.reduceSub, Int.reduceMul, Int.reduceNeg, Int.reduceEq, Nat.reduceMod, forall_eq_or_imp, forall_eq, forall_const, cond_true, cond_false, decide_true, decide_false, true_imp_iff, implies_true, Int.cast_ofNat_Int, forall_eq']
    have hy := acr_in hv ⟨c1, c2⟩ c3
    generalize (acrE (p.cs.getD c.toNat default) y).1 = z at hy i3 ⊢
    refine callK_ro (h2 z y) ?_ ?_
    · simp only [↓EVP0, EVQ0, EVQ1, EVQ2, EVQ3, EVQ4, EVA, EVK, EVF,EVFT, ↓reduceIte, Nat.reduceEqDiff, Nat.reduceAdd, Nat.reduceSub, Nat.reduceMul, Nat.reduceLT, Nat.reduceLeDiff, reduceCtorEq, Int.reduceToNat, Int.reduceLT, Int.reduceLE, Int.reduceAdd, Int.reduceSub, Int.reduceMul, Int.reduceNeg, Int.reduceEq, Nat.reduceMod, forall_eq_or_imp, forall_eq, forall_const, cond_true, cond_false, decide_true, decide_false, true_imp_iff, implies_true, Int.cast_ofNat_Int, forall_eq']
    simp only [↓EVP0, EVQ0, EVQ1, EVQ2, EVQ3, EVQ4, EVA, EVK, EVF,EVFT, ↓reduceIte, Nat.reduceEqDiff, Nat.reduceAdd, Nat.reduceSub, Nat.reduceMul, Nat.reduceLT, Nat.reduceLeDiff, reduceCtorEq, Int.reduceToNat, Int.reduceLT, Int.reduceLE, Int.reduceAdd, Int.reduceSub, Int.reduceMul, Int.reduceNeg, Int.reduceEq, Nat.reduceMod, forall_eq_or_imp, forall_eq, forall_const, cond_true, cond_false, decide_true, decide_false, true_imp_iff, implies_true, Int.cast_ofNat_Int, forall_eq']
    have hzb : 0 ≤ z ∧ z < p.ns.length := by unfold inN at hy; exact hy
    refine ⟨fun hg => ⟨(rfSet r y false, z.toNat, (false || !aboveB l z y), path ++ [c]), ⟨by show z.toNat < _; omega, ?_, ?_⟩, ⟨⟨?_, ?_, ?_⟩, ⟨?_, ?_⟩, rf_row r y false, fun i _ => ⟨trivial, trivial, trivial⟩⟩, by show rfCnt _ (rfSet r y false) < _; omega⟩, fun hg => ⟨(rfSet r y false, z.toNat, (false || !aboveB l z y), path ++ [c]), ⟨by show z.toNat < _; omega, ?_, ?_⟩, ⟨⟨?_, ?_, ?_⟩, ⟨?_, ?_⟩, rf_row r y false, fun i _ => ⟨trivial, trivial, trivial⟩⟩, by show rfCnt _ (rfSet r y false) < _; omega⟩⟩
    all_goals simp only
    all_goals first
      | (rw [hcs]; exact i3)
      | (rw [hg]; rfl)
      | (rw [List.take_length])
      | (rw [List.length_append]; rfl)
      | (rw [List.length_append, List.length_singleton]; omega)
      | omega
      | rfl
end Go.Proofs.YtcdepkflghcjpaaDoor
namespace Go.Proofs.YtcdepkflghcjpaaDoor
set_option linter.unusedSimpArgs false
set_option linter.unusedVariables false
open Go.RowKit
set_option maxRecDepth 20000

def folE (p : Pl) (l : List Int) (t : Tb) (x w : Int) : List Int × Int :=
  if ordB p l = true ∧ validT p t = true then (if nodB p x = true ∧ nodB p w = true then fol p l t w.toNat (rfCnt p.ns.length (fun _ _ => false) + 1) (fun _ _ => false) x.toNat false [] else ([], 2)) else ([], 1)
theorem ev_Follow19 (p : Pl) (hp : PlOk p) (l : List Int) (t : Tb) (x w : Int) : Ev Tryd.prog 19 [plV p, .agg [intsV l], tabV t, .sc (.int .i64 x), .sc (.int .i64 w)] (.tup [intsV (folE p l t x w).1, .sc (.int .i64 (folE p l t x w).2)]) := by
  have h1 := ev_ordValid p hp l
  have h2 := ev_valid19 p hp t
  have h3 := fun hv ht hx hw => ev_follow p hv l t ht x w hx hw
  unfold plV intsV tabV at *
  refine ev_fn Tryd.func19 comp19 (show 5 ≤ Tryd.f19.ntmps by decide) ?_; unfold cf19 rf19; simp only [↓EVP0, EVQ0, EVQ1, EVQ2, EVQ3, EVQ4, EVA, EVK, EVF,EVFT, ↓reduceIte, Nat.reduceEqDiff, Nat.reduceAdd, Nat.reduceSub, Nat.reduceMul, Nat.reduceLT, Nat.reduceLeDiff, reduceCtorEq, Int.reduceToNat, Int.reduceLT, Int.reduceLE, Int.reduceAdd, Int.reduceSub, Int.reduceMul, Int.reduceNeg, Int.reduceEq, Nat.reduceMod, forall_eq_or_imp, forall_eq, forall_const, cond_true, cond_false, decide_true, decide_false, true_imp_iff, implies_true, Int.cast_ofNat_Int, forall_eq']
  refine callK_ro (h1) ?_ ?_
  · simp only [↓EVP0, EVQ0, EVQ1, EVQ2, EVQ3, EVQ4, EVA, EVK, EVF,EVFT, ↓reduceIte, Nat.reduceEqDiff, Nat.reduceAdd, Nat.reduceSub, Nat.reduceMul, Nat.reduceLT, Nat.reduceLeDiff, reduceCtorEq, Int.reduceToNat, Int.reduceLT, Int.reduceLE, Int.reduceAdd, Int.reduceSub, Int.reduceMul, Int.reduceNeg, Int.reduceEq, Nat.reduceMod, forall_eq_or_imp, forall_eq, forall_const, cond_true, cond_false, decide_true, decide_false, true_imp_iff, implies_true, Int.cast_ofNat_Int, forall_eq']
  simp only [↓EVP0, EVQ0, EVQ1, EVQ2, EVQ3, EVQ4, EVA, EVK, EVF,EVFT, ↓reduceIte, Nat.reduceEqDiff, Nat.reduceAdd, Nat.reduceSub, Nat.reduceMul, Nat.reduceLT, Nat.reduceLeDiff, reduceCtorEq, Int.reduceToNat, Int.reduceLT, Int.reduceLE, Int.reduceAdd, Int.reduceSub, Int.reduceMul, Int.reduceNeg, Int.reduceEq, Nat.reduceMod, forall_eq_or_imp, forall_eq, forall_const, cond_true, cond_false, decide_true, decide_false, true_imp_iff, implies_true, Int.cast_ofNat_Int, forall_eq']
  (refine lops_ge_imp ?_; simp only [↓EVP0, EVQ0, EVQ1, EVQ2, EVQ3, EVQ4, EVA, EVK, EVF,EVFT, ↓reduceIte, Nat.reduceEqDiff, Nat.reduceAdd, Nat.reduceSub, Nat.reduceMul, Nat.reduceLT, Nat.reduceLeDiff, reduceCtorEq, Int.reduceToNat, Int.reduceLT, Int.reduceLE, Int.reduceAdd, Int.reduceSub, Int.reduceMul, Int.reduceNeg, Int.reduceEq, Nat.reduceMod, forall_eq_or_imp, forall_eq, forall_const, cond_true, cond_false, decide_true, decide_false, true_imp_iff, implies_true, Int.cast_ofNat_Int, forall_eq'])
  refine gCallK_ro _ (fun _ => h2) (fun _ => ?_) ?_
  · simp only [↓EVP0, EVQ0, EVQ1, EVQ2, EVQ3, EVQ4, EVA, EVK, EVF,EVFT, ↓reduceIte, Nat.reduceEqDiff, Nat.reduceAdd, Nat.reduceSub, Nat.reduceMul, Nat.reduceLT, Nat.reduceLeDiff, reduceCtorEq, Int.reduceToNat, Int.reduceLT, Int.reduceLE, Int.reduceAdd, Int.reduceSub, Int.reduceMul, Int.reduceNeg, Int.reduceEq, Nat.reduceMod, forall_eq_or_imp, forall_eq, forall_const, cond_true, cond_false, decide_true, decide_false, true_imp_iff, implies_true, Int.cast_ofNat_Int, forall_eq']
  simp only [↓EVP0, EVQ0, EVQ1, EVQ2, EVQ3, EVQ4, EVA, EVK, EVF,EVFT, ↓reduceIte, Nat.reduceEqDiff, Nat.reduceAdd, Nat.reduceSub, Nat.reduceMul, Nat.reduceLT, Nat.reduceLeDiff, reduceCtorEq, Int.reduceToNat, Int.reduceLT, Int.reduceLE, Int.reduceAdd, Int.reduceSub, Int.reduceMul, Int.reduceNeg, Int.reduceEq, Nat.reduceMod, forall_eq_or_imp, forall_eq, forall_const, cond_true, cond_false, decide_true, decide_false, true_imp_iff, implies_true, Int.cast_ofNat_Int, forall_eq']
  refine ⟨fun g => ?_, fun g => ⟨fun g2 => ?_, fun g2 => ?_⟩⟩
  · have e : ¬ (ordB p l = true ∧ validT p t = true) := by
      rintro ⟨a, b⟩
      rw [a, b] at g
      simp at g
    unfold folE
    rw [if_neg e]
    exact ⟨rfl, rfl⟩
  · have e : ordB p l = true ∧ validT p t = true := by
      revert g
      cases ordB p l <;> cases validT p t <;> simp
    have e2 : ¬ (nodB p x = true ∧ nodB p w = true) := by
      rintro ⟨a, b⟩
      have a1 := nodB_in a
      have b1 := nodB_in b
      unfold inN at a1 b1
      rw [decide_eq_false (show ¬ x < 0 by omega), decide_eq_false (show ¬ (p.ns.length : Int) ≤ x by omega), decide_eq_false (show ¬ w < 0 by omega), decide_eq_false (show ¬ (p.ns.length : Int) ≤ w by omega)] at g2
      simp at g2
    unfold folE
    rw [if_pos e, if_neg e2]
    exact ⟨rfl, rfl⟩
  · have e : ordB p l = true ∧ validT p t = true := by
      revert g
      cases ordB p l <;> cases validT p t <;> simp
    have b : (0 ≤ x ∧ x < p.ns.length) ∧ (0 ≤ w ∧ w < p.ns.length) := by
      have c1 : ¬ x < 0 := fun c => by rw [decide_eq_true c] at g2; simp at g2
      have c2 : ¬ (p.ns.length : Int) ≤ x := fun c => by rw [decide_eq_true c] at g2; simp at g2
      have c3 : ¬ w < 0 := fun c => by rw [decide_eq_true c] at g2; simp at g2
      have c4 : ¬ (p.ns.length : Int) ≤ w := fun c => by rw [decide_eq_true c] at g2; simp at g2
      omega
    have e2 : nodB p x = true ∧ nodB p w = true := by unfold nodB; simp [b.1.1, b.1.2, b.2.1, b.2.2]
    have h4 := h3 (ord_of e.1).v e.2 (nodB_in e2.1) (nodB_in e2.2)
    have ee : folE p l t x w = fol p l t w.toNat (rfCnt p.ns.length (fun _ _ => false) + 1) (fun _ _ => false) x.toNat false [] := by
      unfold folE
      rw [if_pos e, if_pos e2]
    rw [ee]
    refine callK_ro (h4) ?_ ?_
    · simp only [↓EVP0, EVQ0, EVQ1, EVQ2, EVQ3, EVQ4, EVA, EVK, EVF,EVFT, ↓reduceIte, Nat.reduceEqDiff, Nat.reduceAdd, Nat.reduceSub, Nat.reduceMul, Nat.reduceLT, Nat.reduceLeDiff, reduceCtorEq, Int.reduceToNat, Int.reduceLT, Int.reduceLE, Int.reduceAdd, Int.reduceSub, Int.reduceMul, Int.reduceNeg, Int.reduceEq, Nat.reduceMod, forall_eq_or_imp, forall_eq, forall_const, cond_true, cond_false, decide_true, decide_false, true_imp_iff, implies_true, Int.cast_ofNat_Int, forall_eq']
    simp only [↓EVP0, EVQ0, EVQ1, EVQ2, EVQ3, EVQ4, EVA, EVK, EVF,EVFT, ↓reduceIte, Nat.reduceEqDiff, Nat.reduceAdd, Nat.reduceSub, Nat.reduceMul, Nat.reduceLT, Nat.reduceLeDiff, reduceCtorEq, Int.reduceToNat, Int.reduceLT, Int.reduceLE, Int.reduceAdd, Int.reduceSub, Int.reduceMul, Int.reduceNeg, Int.reduceEq, Nat.reduceMod, forall_eq_or_imp, forall_eq, forall_const, cond_true, cond_false, decide_true, decide_false, true_imp_iff, implies_true, Int.cast_ofNat_Int, forall_eq']
theorem fol_make {p : Pl} (hv : validE p = 0) {l : List Int} (hll : l.length = p.ns.length) {up : List Bool} {w : Nat} (hw : w < p.ns.length) : ∀ (k : Nat) (r : Rf) (x : Nat) (b : Bool) (path : List Int), x < p.ns.length →
    (∀ i c, r i c = true → dS p.ns.length l p.cs up (w : Int) ((x : Int), b) < dS p.ns.length l p.cs up (w : Int) ((i : Int), c)) → (dS p.ns.length l p.cs up (w : Int) ((x : Int), b)).toNat < k →
    fol p l (makeT p l up) w k r x b path = if x = w then (path, 0) else if dS p.ns.length l p.cs up (w : Int) ((x : Int), b) < 1 then ([], 12) else (path ++ chs l p.cs up (dS p.ns.length l p.cs up (w : Int)) (dS p.ns.length l p.cs up (w : Int) ((x : Int), b)).toNat ((x : Int), b), 0)
  | 0, _, _, _, _, _, _, h => by omega
  | k + 1, r, x, b, path, hx, hr, hk => by
    have hn : p.ns.length ≤ 100 := by have := (valid_of hv).n16; omega
    have htx : inN p.ns.length (w : Int) := by unfold inN; omega
    have hD := d_facts (l := l) (cs := p.cs) (up := up) hn (valid_of hv).cab htx
    have hno : r x b = false := by
      cases e : r x b
      · rfl
      · have := hr x b e; omega
    have hte : tabE (makeT p l up) x b w = entE p l up x b w := by
      unfold tabE
      rw [makeT_get p l up hx]
      cases b
      · exact rowE_get p l up x false hw
      · exact rowE_get p l up x true hw
    unfold fol
    rw [hte, if_neg (by rw [hno]; simp)]
    by_cases e : x = w
    · have e2 : entE p l up x b w = -2 := by unfold entE; rw [if_pos e]
      rw [e2, if_pos rfl, if_pos e]
    rw [if_neg e]
    by_cases h1 : dS p.ns.length l p.cs up (w : Int) ((x : Int), b) < 1
    · have e2 : entE p l up x b w = -1 := by unfold entE chE; rw [if_neg e, if_pos h1]
      rw [e2, if_neg (by decide), if_pos rfl, if_pos h1]
    · obtain ⟨i, t, g1, g2, g3, g4, _⟩ := fst_some hv hll htx hD (s := ((x : Int), b)) rfl (by omega)
      have e2 : entE p l up x b w = (i : Int) := by unfold entE chE; rw [if_neg e, if_neg h1, g1]; rfl
      obtain ⟨a1, a2, a3, a4, a5, a6, _⟩ := edg_acr hv g2 g3
      have hin := edg_in (valid_of hv).cab g2 g3
      have hz := hin.2
      unfold inN at hz
      obtain ⟨_, _, e3, e4⟩ := g3
      rw [e2, if_neg (by omega), if_neg (by omega), if_neg h1, Int.toNat_natCast, a1]
      have htt : ((t.1.toNat : Nat) : Int) = t.1 := by omega
      have hb : (b || !aboveB l t.1 (x : Int)) = t.2 := by
        rw [e3]
        simp only at e4 ⊢
        cases b
        · rfl
        · simp at e4 ⊢; exact e4
      have hst : (((t.1.toNat : Nat) : Int), t.2) = t := by rw [htt]
      show fol p l (makeT p l up) w k (rfSet r x b) t.1.toNat (b || !aboveB l t.1 (x : Int)) (path ++ [(i : Int)]) = _
      rw [hb, fol_make hv hll hw k (rfSet r x b) t.1.toNat t.2 (path ++ [(i : Int)]) (by omega) (fun j c hj => ?_) (by rw [hst]; omega), hst, g4]
      · have hch : chs l p.cs up (dS p.ns.length l p.cs up (w : Int)) (dS p.ns.length l p.cs up (w : Int) ((x : Int), b)).toNat ((x : Int), b) = (i : Int) :: chs l p.cs up (dS p.ns.length l p.cs up (w : Int)) (dS p.ns.length l p.cs up (w : Int) ((x : Int), b) - 1).toNat t := by
          obtain ⟨m, hm⟩ : ∃ m : Nat, dS p.ns.length l p.cs up (w : Int) ((x : Int), b) = ((m + 1 : Nat) : Int) := ⟨(dS p.ns.length l p.cs up (w : Int) ((x : Int), b)).toNat - 1, by omega⟩
          rw [hm] at g1 ⊢
          rw [show (((m + 1 : Nat) : Int)).toNat = m + 1 by omega, show (((m + 1 : Nat) : Int) - 1).toNat = m by omega]
          show (match fstS l p.cs up (dS p.ns.length l p.cs up (w : Int)) ((x : Int), b) ((m + 1 : Nat) : Int) with
            | some q => (q.1 : Int) :: chs l p.cs up (dS p.ns.length l p.cs up (w : Int)) m q.2
            | none => []) = _
          rw [g1]
        rw [hch]
        by_cases hd1 : dS p.ns.length l p.cs up (w : Int) ((x : Int), b) - 1 = 0
        · have hz0 := (hD.zero t).1 (by omega)
          rw [if_pos (by have := hz0.1; omega), hd1]
          rfl
        · rw [if_neg (fun h => hd1 ?_), if_neg (by omega), List.append_assoc]
          · rfl
          · have : t.1 = (w : Int) := by omega
            have hlv : 0 ≤ lvl l (w : Int) := by rw [← this]; exact a5
            have := (hD.zero t).2 ⟨this, hlv⟩
            omega
      · unfold rfSet at hj
        rw [hst]
        by_cases hjx : j = x ∧ c = b
        · rw [hjx.1, hjx.2]; omega
        · rw [if_neg hjx] at hj
          have := hr j c hj; omega
end Go.Proofs.YtcdepkflghcjpaaDoor
namespace Go.Proofs.YtcdepkflghcjpaaDoor
set_option linter.unusedSimpArgs false
set_option linter.unusedVariables false
open Go.RowKit
set_option maxRecDepth 20000

theorem rfCnt_no : ∀ n : Nat, rfCnt n (fun _ _ => false) = 2 * n := by
  intro n
  unfold rfCnt
  induction n with
  | zero => rfl
  | succ n ih => rw [List.range_succ, List.map_append, List.sum_append, ih]; simp; omega
theorem folE_make {p : Pl} {l : List Int} {up : List Bool} (hf : fitB19 p l up = true) {a w : Nat} (ha : a < p.ns.length) (hw : w < p.ns.length) :
    folE p l (makeT p l up) a w = if a = w then ([], 0) else if dS p.ns.length l p.cs up (w : Int) ((a : Int), false) < 1 then ([], 12) else (chs l p.cs up (dS p.ns.length l p.cs up (w : Int)) (dS p.ns.length l p.cs up (w : Int) ((a : Int), false)).toNat ((a : Int), false), 0) := by
  obtain ⟨hv, ho, hup⟩ := fit_of hf
  have hO := ord_of ho
  have hll := hO.len
  have hn : p.ns.length ≤ 100 := by have := (valid_of hv).n16; omega
  have htx : inN p.ns.length (w : Int) := by unfold inN; omega
  have hD := d_facts (l := l) (cs := p.cs) (up := up) hn (valid_of hv).cab htx
  unfold folE
  rw [if_pos ⟨ho, make_valid hv hll⟩, if_pos (by unfold nodB; simp; omega)]
  rw [Int.toNat_natCast, Int.toNat_natCast, fol_make hv hll hw _ _ a false [] ha (fun i c h => by simp at h) (by rw [rfCnt_no]; have := hD.low ((a : Int), false); omega)]
  rfl
theorem rest_law {p : Pl} {l : List Int} {up : List Bool} (hf : fitB19 p l up = true) {a w : Nat} (ha : a < p.ns.length) (hw : w < p.ns.length) (hne : a ≠ w) (hd : ¬ dS p.ns.length l p.cs up (w : Int) ((a : Int), false) < 1) :
    ∃ (i v : Nat) (r : List Int), (folE p l (makeT p l up) a w) = ((i : Int) :: r, 0) ∧ i < p.cs.length ∧ (upE p l i a).2 = 0 ∧ (p.cs.getD i default).a + (p.cs.getD i default).b - (a : Int) = (v : Int) ∧ v < p.ns.length ∧
      ((upE p l i a).1 = true → folE p l (makeT p l up) v w = (r, 0)) := by
  obtain ⟨hv, ho, hup⟩ := fit_of hf
  have hO := ord_of ho
  have hll := hO.len
  have hn : p.ns.length ≤ 100 := by have := (valid_of hv).n16; omega
  have htx : inN p.ns.length (w : Int) := by unfold inN; omega
  have hD := d_facts (l := l) (cs := p.cs) (up := up) hn (valid_of hv).cab htx
  have h0 := folE_make hf ha hw
  rw [if_neg hne, if_neg hd] at h0
  obtain ⟨i, t, g1, g2, g3, g4, _⟩ := fst_some hv hll htx hD (s := ((a : Int), false)) rfl (by omega)
  obtain ⟨a1, a2, a3, a4, a5, a6, a7, a8⟩ := edg_acr hv g2 g3
  have hin := edg_in (valid_of hv).cab g2 g3
  have hz := hin.2
  unfold inN at hz
  obtain ⟨_, _, e3, e4⟩ := g3
  have hu : upE p l i (a : Int) = (aboveB l t.1 (a : Int), 0) := by
    unfold upE
    unfold lvl at a7 a8
    simp only at a3 a6
    rw [ho, Int.toNat_natCast, decide_eq_false (show ¬ (i : Int) < 0 by omega), decide_eq_false (show ¬ (p.cs.length : Int) ≤ i by omega), decide_eq_false (show ¬ l.getD (p.cs.getD i default).a.toNat 0 < 0 by omega), decide_eq_false (show ¬ l.getD (p.cs.getD i default).b.toNat 0 < 0 by omega), a3]
    rcases a6 with a6 | a6
    · rw [decide_eq_true a6]; rfl
    · rw [decide_eq_true a6]
      cases decide ((a : Int) = (p.cs.getD i default).a) <;> rfl
  have htv : ((t.1.toNat : Nat) : Int) = t.1 := by omega
  refine ⟨i, t.1.toNat, chs l p.cs up (dS p.ns.length l p.cs up (w : Int)) (dS p.ns.length l p.cs up (w : Int) t).toNat t, ?_, g2, by rw [hu], by rw [a3, htv], by omega, fun hr => ?_⟩
  · rw [h0]
    obtain ⟨m, hm⟩ : ∃ m : Nat, dS p.ns.length l p.cs up (w : Int) ((a : Int), false) = ((m + 1 : Nat) : Int) := ⟨(dS p.ns.length l p.cs up (w : Int) ((a : Int), false)).toNat - 1, by omega⟩
    rw [g4, hm]
    rw [hm] at g1
    rw [show (((m + 1 : Nat) : Int)).toNat = m + 1 by omega, show (((m + 1 : Nat) : Int) - 1).toNat = m by omega]
    refine Prod.ext ?_ rfl
    show (match fstS l p.cs up (dS p.ns.length l p.cs up (w : Int)) ((a : Int), false) ((m + 1 : Nat) : Int) with
      | some q => (q.1 : Int) :: chs l p.cs up (dS p.ns.length l p.cs up (w : Int)) m q.2
      | none => []) = _
    rw [g1]
  · rw [hu] at hr
    simp only at hr e3
    rw [hr] at e3
    have ht2 : (((t.1.toNat : Nat) : Int), false) = t := Prod.ext htv (by rw [e3]; rfl)
    rw [folE_make hf (show t.1.toNat < p.ns.length by omega) hw, ht2]
    by_cases e : t.1.toNat = w
    · rw [if_pos e, (hD.zero t).2 ⟨by omega, ?_⟩]
      · rfl
      · rw [← show t.1 = (w : Int) by omega]; exact a5
    · rw [if_neg e, if_neg]
      intro h1
      have := (hD.zero t).1 (by omega)
      omega
theorem ev_lawRest (p : Pl) (hp : PlOk p) (l : List Int) (up : List Bool) (fr : Int) (hfr : 0 ≤ fr ∧ fr ≤ 255) (ti : Int) (hti : 0 ≤ ti ∧ ti ≤ 255) : Ev Tryd.prog 5 [plV p, .agg [intsV l], boolsV up, .sc (.int .u8 fr), .sc (.int .u8 ti)] (.sc (.bool true)) := by
  have h0 := ev_awake19
  have h1 := ev_small19 p l up
  have h2 := ev_fits19 p l up
  have h3 := ev_make p hp l up
  have h4 := fun x w => ev_Follow19 p hp l (makeT p l up) x w
  have h5 := fun c x => ev_upward p hp l c x
  have h6 := fun a b => ev_equal a b
  unfold plV boolsV intsV tabV at *
  refine ev_fn Tryd.func5 comp5 (show 5 ≤ Tryd.f5.ntmps by decide) ?_; unfold cf5 rf5; simp only [↓EVP0, EVQ0, EVQ1, EVQ2, EVQ3, EVQ4, EVA, EVK, EVF,EVFT, ↓reduceIte, Nat.reduceEqDiff, Nat.reduceAdd, Nat.reduceSub, Nat.reduceMul, Nat.reduceLT, Nat.reduceLeDiff, reduceCtorEq, Int.reduceToNat, Int.reduceLT, Int.reduceLE, Int.reduceAdd, Int.reduceSub, Int.reduceMul, Int.reduceNeg, Int.reduceEq, Nat.reduceMod, forall_eq_or_imp, forall_eq, forall_const, cond_true, cond_false, decide_true, decide_false, true_imp_iff, implies_true, Int.cast_ofNat_Int, forall_eq']
  refine callK_ro (h0) ?_ ?_
  · simp only [↓EVP0, EVQ0, EVQ1, EVQ2, EVQ3, EVQ4, EVA, EVK, EVF,EVFT, ↓reduceIte, Nat.reduceEqDiff, Nat.reduceAdd, Nat.reduceSub, Nat.reduceMul, Nat.reduceLT, Nat.reduceLeDiff, reduceCtorEq, Int.reduceToNat, Int.reduceLT, Int.reduceLE, Int.reduceAdd, Int.reduceSub, Int.reduceMul, Int.reduceNeg, Int.reduceEq, Nat.reduceMod, forall_eq_or_imp, forall_eq, forall_const, cond_true, cond_false, decide_true, decide_false, true_imp_iff, implies_true, Int.cast_ofNat_Int, forall_eq']
  simp only [↓EVP0, EVQ0, EVQ1, EVQ2, EVQ3, EVQ4, EVA, EVK, EVF,EVFT, ↓reduceIte, Nat.reduceEqDiff, Nat.reduceAdd, Nat.reduceSub, Nat.reduceMul, Nat.reduceLT, Nat.reduceLeDiff, reduceCtorEq, Int.reduceToNat, Int.reduceLT, Int.reduceLE, Int.reduceAdd, Int.reduceSub, Int.reduceMul, Int.reduceNeg, Int.reduceEq, Nat.reduceMod, forall_eq_or_imp, forall_eq, forall_const, cond_true, cond_false, decide_true, decide_false, true_imp_iff, implies_true, Int.cast_ofNat_Int, forall_eq']
  refine callK_ro (h1) ?_ ?_
  · simp only [↓EVP0, EVQ0, EVQ1, EVQ2, EVQ3, EVQ4, EVA, EVK, EVF,EVFT, ↓reduceIte, Nat.reduceEqDiff, Nat.reduceAdd, Nat.reduceSub, Nat.reduceMul, Nat.reduceLT, Nat.reduceLeDiff, reduceCtorEq, Int.reduceToNat, Int.reduceLT, Int.reduceLE, Int.reduceAdd, Int.reduceSub, Int.reduceMul, Int.reduceNeg, Int.reduceEq, Nat.reduceMod, forall_eq_or_imp, forall_eq, forall_const, cond_true, cond_false, decide_true, decide_false, true_imp_iff, implies_true, Int.cast_ofNat_Int, forall_eq']
  simp only [↓EVP0, EVQ0, EVQ1, EVQ2, EVQ3, EVQ4, EVA, EVK, EVF,EVFT, ↓reduceIte, Nat.reduceEqDiff, Nat.reduceAdd, Nat.reduceSub, Nat.reduceMul, Nat.reduceLT, Nat.reduceLeDiff, reduceCtorEq, Int.reduceToNat, Int.reduceLT, Int.reduceLE, Int.reduceAdd, Int.reduceSub, Int.reduceMul, Int.reduceNeg, Int.reduceEq, Nat.reduceMod, forall_eq_or_imp, forall_eq, forall_const, cond_true, cond_false, decide_true, decide_false, true_imp_iff, implies_true, Int.cast_ofNat_Int, forall_eq']
  refine lops_ge_imp ?_
  simp only [↓EVP0, EVQ0, EVQ1, EVQ2, EVQ3, EVQ4, EVA, EVK, EVF,EVFT, ↓reduceIte, Nat.reduceEqDiff, Nat.reduceAdd, Nat.reduceSub, Nat.reduceMul, Nat.reduceLT, Nat.reduceLeDiff, reduceCtorEq, Int.reduceToNat, Int.reduceLT, Int.reduceLE, Int.reduceAdd, Int.reduceSub, Int.reduceMul, Int.reduceNeg, Int.reduceEq, Nat.reduceMod, forall_eq_or_imp, forall_eq, forall_const, cond_true, cond_false, decide_true, decide_false, true_imp_iff, implies_true, Int.cast_ofNat_Int, forall_eq']
  have hs : decide ((if smallB p l up = true then (1 : Int) else 0) = 0) = !smallB p l up := by cases smallB p l up <;> rfl
  rw [hs]
  refine gCallK_ro _ (fun _ => h2) (fun _ => ?_) ?_
  · simp only [↓EVP0, EVQ0, EVQ1, EVQ2, EVQ3, EVQ4, EVA, EVK, EVF,EVFT, ↓reduceIte, Nat.reduceEqDiff, Nat.reduceAdd, Nat.reduceSub, Nat.reduceMul, Nat.reduceLT, Nat.reduceLeDiff, reduceCtorEq, Int.reduceToNat, Int.reduceLT, Int.reduceLE, Int.reduceAdd, Int.reduceSub, Int.reduceMul, Int.reduceNeg, Int.reduceEq, Nat.reduceMod, forall_eq_or_imp, forall_eq, forall_const, cond_true, cond_false, decide_true, decide_false, true_imp_iff, implies_true, Int.cast_ofNat_Int, forall_eq']
  simp only [↓EVP0, EVQ0, EVQ1, EVQ2, EVQ3, EVQ4, EVA, EVK, EVF,EVFT, ↓reduceIte, Nat.reduceEqDiff, Nat.reduceAdd, Nat.reduceSub, Nat.reduceMul, Nat.reduceLT, Nat.reduceLeDiff, reduceCtorEq, Int.reduceToNat, Int.reduceLT, Int.reduceLE, Int.reduceAdd, Int.reduceSub, Int.reduceMul, Int.reduceNeg, Int.reduceEq, Nat.reduceMod, forall_eq_or_imp, forall_eq, forall_const, cond_true, cond_false, decide_true, decide_false, true_imp_iff, implies_true, Int.cast_ofNat_Int, forall_eq']
  refine ⟨fun _ => trivial, fun hg => ?_⟩
  have c1 : smallB p l up = true := by
    cases h : smallB p l up
    · rw [h] at hg; simp at hg
    · rfl
  have c2 : fitB19 p l up = true := by
    cases h : fitB19 p l up
    · rw [c1, h] at hg; simp at hg
    · rfl
  have hN : (p.ns.length : Int) ≠ 0 := by
    intro h
    rw [c1, c2, decide_eq_true h] at hg; simp at hg
  have h8 : p.ns.length ≤ 8 := by
    unfold smallB at c1
    simp only [Bool.and_eq_true, decide_eq_true_eq] at c1
    exact c1.1
  obtain ⟨hv, ho, hup⟩ := fit_of c2
  have hO := ord_of ho
  have hll := hO.len
  have h3 := h3 h8
  rw [show makeE p l up = (makeT p l up, 0) by unfold makeE; rw [if_pos ⟨ho, hup⟩]] at h3
  have hA : 0 ≤ fr.tmod (p.ns.length : Int) ∧ fr.tmod (p.ns.length : Int) < (p.ns.length : Int) := ⟨Int.tmod_nonneg _ hfr.1, Int.tmod_lt_of_pos _ (by omega)⟩
  have hW : 0 ≤ ti.tmod (p.ns.length : Int) ∧ ti.tmod (p.ns.length : Int) < (p.ns.length : Int) := ⟨Int.tmod_nonneg _ hti.1, Int.tmod_lt_of_pos _ (by omega)⟩
  refine ⟨by unfold In64; omega, hN, by unfold In64; omega, hN, ?_⟩
  generalize hAe : fr.tmod (p.ns.length : Int) = A at hA ⊢
  generalize hWe : ti.tmod (p.ns.length : Int) = W at hW ⊢
  obtain ⟨a, rfl⟩ : ∃ a : Nat, A = (a : Int) := ⟨A.toNat, by omega⟩
  obtain ⟨w, rfl⟩ : ∃ w : Nat, W = (w : Int) := ⟨W.toNat, by omega⟩
  have hLM := fun (ha : a < p.ns.length) (hw : w < p.ns.length) => folE_make c2 ha hw
  have hLR := fun (ha : a < p.ns.length) (hw : w < p.ns.length) => rest_law c2 ha hw
  have ha : a < p.ns.length := by omega
  have hw : w < p.ns.length := by omega
  have hLM := hLM ha hw
  have hLR := hLR ha hw
  refine callK_ro (h3) ?_ ?_
  · simp only [↓EVP0, EVQ0, EVQ1, EVQ2, EVQ3, EVQ4, EVA, EVK, EVF,EVFT, ↓reduceIte, Nat.reduceEqDiff, Nat.reduceAdd, Nat.reduceSub, Nat.reduceMul, Nat.reduceLT, Nat.reduceLeDiff, reduceCtorEq, Int.reduceToNat, Int.reduceLT, Int.reduceLE, Int.reduceAdd, Int.reduceSub, Int.reduceMul, Int.reduceNeg, Int.reduceEq, Nat.reduceMod, forall_eq_or_imp, forall_eq, forall_const, cond_true, cond_false, decide_true, decide_false, true_imp_iff, implies_true, Int.cast_ofNat_Int, forall_eq']
  simp only [↓EVP0, EVQ0, EVQ1, EVQ2, EVQ3, EVQ4, EVA, EVK, EVF,EVFT, ↓reduceIte, Nat.reduceEqDiff, Nat.reduceAdd, Nat.reduceSub, Nat.reduceMul, Nat.reduceLT, Nat.reduceLeDiff, reduceCtorEq, Int.reduceToNat, Int.reduceLT, Int.reduceLE, Int.reduceAdd, Int.reduceSub, Int.reduceMul, Int.reduceNeg, Int.reduceEq, Nat.reduceMod, forall_eq_or_imp, forall_eq, forall_const, cond_true, cond_false, decide_true, decide_false, true_imp_iff, implies_true, Int.cast_ofNat_Int, forall_eq']
  have h7 := h4 a w
  refine callK_ro (h7) ?_ ?_
  · simp only [↓EVP0, EVQ0, EVQ1, EVQ2, EVQ3, EVQ4, EVA, EVK, EVF,EVFT, ↓reduceIte, Nat.reduceEqDiff, Nat.reduceAdd, Nat.reduceSub, Nat.reduceMul, Nat.reduceLT, Nat.reduceLeDiff, reduceCtorEq, Int.reduceToNat, Int.reduceLT, Int.reduceLE, Int.reduceAdd, Int.reduceSub, Int.reduceMul, Int.reduceNeg, Int.reduceEq, Nat.reduceMod, forall_eq_or_imp, forall_eq, forall_const, cond_true, cond_false, decide_true, decide_false, true_imp_iff, implies_true, Int.cast_ofNat_Int, forall_eq']
  simp only [↓EVP0, EVQ0, EVQ1, EVQ2, EVQ3, EVQ4, EVA, EVK, EVF,EVFT, ↓reduceIte, Nat.reduceEqDiff, Nat.reduceAdd, Nat.reduceSub, Nat.reduceMul, Nat.reduceLT, Nat.reduceLeDiff, reduceCtorEq, Int.reduceToNat, Int.reduceLT, Int.reduceLE, Int.reduceAdd, Int.reduceSub, Int.reduceMul, Int.reduceNeg, Int.reduceEq, Nat.reduceMod, forall_eq_or_imp, forall_eq, forall_const, cond_true, cond_false, decide_true, decide_false, true_imp_iff, implies_true, Int.cast_ofNat_Int, forall_eq']
  by_cases e1 : a = w
  · rw [if_pos e1] at hLM
    rw [hLM]
    exact ⟨fun _ => rfl, fun h => by simp at h⟩
  rw [if_neg e1] at hLM
  by_cases e2 : dS p.ns.length l p.cs up (w : Int) ((a : Int), false) < 1
  · rw [if_pos e2] at hLM
    rw [hLM]
    exact ⟨fun _ => rfl, fun h => by simp at h⟩
  obtain ⟨i, v, r, q1, q2, q3, q4, q5, q6⟩ := hLR e1 e2
  have q7 := congrArg Prod.fst q1
  have q8 := congrArg Prod.snd q1
  simp only at q7 q8
  rw [q7, q8]
  refine ⟨fun _ => rfl, fun _ => ⟨by simp, ?_⟩⟩
  rw [show ((i : Int) :: r).getD 0 0 = (i : Int) from rfl]
  have h8 := h5 i a
  first | refine qCallK_ro (h8) ?_ ?_ | refine eCallK_ro (h8) ?_ ?_
  · simp only [↓EVP0, EVQ0, EVQ1, EVQ2, EVQ3, EVQ4, EVA, EVK, EVF,EVFT, ↓reduceIte, Nat.reduceEqDiff, Nat.reduceAdd, Nat.reduceSub, Nat.reduceMul, Nat.reduceLT, Nat.reduceLeDiff, reduceCtorEq, Int.reduceToNat, Int.reduceLT, Int.reduceLE, Int.reduceAdd, Int.reduceSub, Int.reduceMul, Int.reduceNeg, Int.reduceEq, Nat.reduceMod, forall_eq_or_imp, forall_eq, forall_const, cond_true, cond_false, decide_true, decide_false, true_imp_iff, implies_true, Int.cast_ofNat_Int, forall_eq']
  simp only [↓EVP0, EVQ0, EVQ1, EVQ2, EVQ3, EVQ4, EVA, EVK, EVF,EVFT, ↓reduceIte, Nat.reduceEqDiff, Nat.reduceAdd, Nat.reduceSub, Nat.reduceMul, Nat.reduceLT, Nat.reduceLeDiff, reduceCtorEq, Int.reduceToNat, Int.reduceLT, Int.reduceLE, Int.reduceAdd, Int.reduceSub, Int.reduceMul, Int.reduceNeg, Int.reduceEq, Nat.reduceMod, forall_eq_or_imp, forall_eq, forall_const, cond_true, cond_false, decide_true, decide_false, true_imp_iff, implies_true, Int.cast_ofNat_Int, forall_eq']
  rw [q3]
  refine ⟨fun h => by simp at h, fun _ => ⟨fun _ => trivial, fun h => ?_⟩⟩
  have hr : (upE p l (i : Int) (a : Int)).1 = true := by
    cases e : (upE p l (i : Int) (a : Int)).1
    · rw [e] at h; simp at h
    · rfl
  have hcab := (valid_of hv).cab _ (getD_mem default q2)
  unfold inN at hcab
  have q6 := q6 hr
  refine ⟨by omega, ⟨by omega, by omega⟩, by omega, ⟨by omega, by omega⟩, by unfold In64; omega, by unfold In64; omega, ?_⟩
  rw [q4]
  have h9 := h4 v w
  rw [q6] at h9
  first | refine qCallK_ro (h9) ?_ ?_ | refine eCallK_ro (h9) ?_ ?_
  · simp only [↓EVP0, EVQ0, EVQ1, EVQ2, EVQ3, EVQ4, EVA, EVK, EVF,EVFT, ↓reduceIte, Nat.reduceEqDiff, Nat.reduceAdd, Nat.reduceSub, Nat.reduceMul, Nat.reduceLT, Nat.reduceLeDiff, reduceCtorEq, Int.reduceToNat, Int.reduceLT, Int.reduceLE, Int.reduceAdd, Int.reduceSub, Int.reduceMul, Int.reduceNeg, Int.reduceEq, Nat.reduceMod, forall_eq_or_imp, forall_eq, forall_const, cond_true, cond_false, decide_true, decide_false, true_imp_iff, implies_true, Int.cast_ofNat_Int, forall_eq']
  simp only [↓EVP0, EVQ0, EVQ1, EVQ2, EVQ3, EVQ4, EVA, EVK, EVF,EVFT, ↓reduceIte, Nat.reduceEqDiff, Nat.reduceAdd, Nat.reduceSub, Nat.reduceMul, Nat.reduceLT, Nat.reduceLeDiff, reduceCtorEq, Int.reduceToNat, Int.reduceLT, Int.reduceLE, Int.reduceAdd, Int.reduceSub, Int.reduceMul, Int.reduceNeg, Int.reduceEq, Nat.reduceMod, forall_eq_or_imp, forall_eq, forall_const, cond_true, cond_false, decide_true, decide_false, true_imp_iff, implies_true, Int.cast_ofNat_Int, forall_eq']
  refine ⟨⟨by omega, by omega⟩, ?_⟩
  have hs2 : (fun k => [LV.sc (Value.int IntKind.i64 (((i : Int) :: r).getD (1 + k) 0))]) = intsF r := by
    funext k
    rw [Nat.add_comm 1 k]; rfl
  rw [hs2, show ((r.length : Int) + 1).toNat - 1 = r.length by omega]
  have h10 := h6 r r
  rw [decide_eq_true rfl] at h10
  (refine lops_ge_imp ?_; simp only [↓EVP0, EVQ0, EVQ1, EVQ2, EVQ3, EVQ4, EVA, EVK, EVF,EVFT, ↓reduceIte, Nat.reduceEqDiff, Nat.reduceAdd, Nat.reduceSub, Nat.reduceMul, Nat.reduceLT, Nat.reduceLeDiff, reduceCtorEq, Int.reduceToNat, Int.reduceLT, Int.reduceLE, Int.reduceAdd, Int.reduceSub, Int.reduceMul, Int.reduceNeg, Int.reduceEq, Nat.reduceMod, forall_eq_or_imp, forall_eq, forall_const, cond_true, cond_false, decide_true, decide_false, true_imp_iff, implies_true, Int.cast_ofNat_Int, forall_eq'])
  refine gCallK_ro _ (fun _ => h10) (fun _ => ?_) ?_
  · simp only [↓EVP0, EVQ0, EVQ1, EVQ2, EVQ3, EVQ4, EVA, EVK, EVF,EVFT, ↓reduceIte, Nat.reduceEqDiff, Nat.reduceAdd, Nat.reduceSub, Nat.reduceMul, Nat.reduceLT, Nat.reduceLeDiff, reduceCtorEq, Int.reduceToNat, Int.reduceLT, Int.reduceLE, Int.reduceAdd, Int.reduceSub, Int.reduceMul, Int.reduceNeg, Int.reduceEq, Nat.reduceMod, forall_eq_or_imp, forall_eq, forall_const, cond_true, cond_false, decide_true, decide_false, true_imp_iff, implies_true, Int.cast_ofNat_Int, forall_eq']
  simp only [↓EVP0, EVQ0, EVQ1, EVQ2, EVQ3, EVQ4, EVA, EVK, EVF,EVFT, ↓reduceIte, Nat.reduceEqDiff, Nat.reduceAdd, Nat.reduceSub, Nat.reduceMul, Nat.reduceLT, Nat.reduceLeDiff, reduceCtorEq, Int.reduceToNat, Int.reduceLT, Int.reduceLE, Int.reduceAdd, Int.reduceSub, Int.reduceMul, Int.reduceNeg, Int.reduceEq, Nat.reduceMod, forall_eq_or_imp, forall_eq, forall_const, cond_true, cond_false, decide_true, decide_false, true_imp_iff, implies_true, Int.cast_ofNat_Int, forall_eq']
end Go.Proofs.YtcdepkflghcjpaaDoor
namespace Go.Proofs.YtcdepkflghcjpaaDoor
set_option linter.unusedSimpArgs false
set_option linter.unusedVariables false
open Go.RowKit
set_option maxRecDepth 20000

theorem nodB_nat {p : Pl} {a : Nat} (h : a < p.ns.length) : nodB p (a : Int) = true := by unfold nodB; simp; omega
theorem chosen_law {p : Pl} {l : List Int} {up : List Bool} (hf : fitB19 p l up = true) {a w : Nat} (ha : a < p.ns.length) (hw : w < p.ns.length) (hne : a ≠ w) :
    (folE p l (makeT p l up) a w = ([], 12) ∧ pathE p l up a w = ([], 12)) ∨
    ∃ path, folE p l (makeT p l up) a w = (path, 0) ∧ pathE p l up a w = (path, 0) ∧ path.length ≤ 1000 ∧ legalE p l a path = true ∧ dS p.ns.length l p.cs up (w : Int) ((a : Int), false) = path.length := by
  obtain ⟨hv, ho, hup⟩ := fit_of hf
  have hO := ord_of ho
  have hll := hO.len
  have h16 := (valid_of hv).n16
  have hn : p.ns.length ≤ 100 := by omega
  have htx : inN p.ns.length (w : Int) := by unfold inN; omega
  have hD := d_facts (l := l) (cs := p.cs) (up := up) hn (valid_of hv).cab htx
  have ep : pathE p l up a w = if dS p.ns.length l p.cs up w (a, false) = -1 then ([], 12) else (chs l p.cs up (dS p.ns.length l p.cs up w) (dS p.ns.length l p.cs up w (a, false)).toNat (a, false), 0) := by
    unfold pathE; rw [if_pos ⟨ho, hup⟩, if_pos ⟨nodB_nat ha, nodB_nat hw⟩]
  have h0 := folE_make hf ha hw
  rw [if_neg hne] at h0
  have hlo := hD.low ((a : Int), false)
  have hz : dS p.ns.length l p.cs up (w : Int) ((a : Int), false) ≠ 0 := fun h => by have := ((hD.zero _).1 h).1; simp at this; omega
  by_cases h1 : dS p.ns.length l p.cs up (w : Int) ((a : Int), false) = -1
  · left
    rw [if_pos h1] at ep
    rw [if_pos (by omega)] at h0
    exact ⟨h0, ep⟩
  · right
    rw [if_neg h1] at ep
    rw [if_neg (by omega)] at h0
    obtain ⟨ns, hc⟩ := chs_ok hv hll htx hD (dS p.ns.length l p.cs up (w : Int) ((a : Int), false)).toNat ((a : Int), false) none (by omega) (fun _ _ _ _ _ _ => by simp)
    have hnd := nodes_cho (s := ((a : Int), false)) hv (nodB_nat ha) hc
    refine ⟨_, h0, ep, by rw [hc.len.2]; omega, ?_, by rw [hc.len.2]; omega⟩
    have hl1 := hc.lvs
    have hl2 := hc.leg
    have hl3 := hD.lvl ((a : Int), false) (by omega)
    simp only at hl3 hl2
    generalize chs l p.cs up (dS p.ns.length l p.cs up w) (dS p.ns.length l p.cs up w (a, false)).toNat (a, false) = path at *
    unfold legalE
    simp only at hnd
    rw [ho, hnd]
    show (true && (decide ((0 : Int) = 0) && (lvs l ((a : Int) :: ns) && _))) = true
    rw [hl2]
    unfold lvs at hl1 ⊢
    rw [List.all_cons, hl1, decide_eq_true hl3]; rfl
theorem ev_lawChosen (p : Pl) (hp : PlOk p) (l : List Int) (up : List Bool) (fr : Int) (hfr : 0 ≤ fr ∧ fr ≤ 255) (ti : Int) (hti : 0 ≤ ti ∧ ti ≤ 255) : Ev Tryd.prog 7 [plV p, .agg [intsV l], boolsV up, .sc (.int .u8 fr), .sc (.int .u8 ti)] (.sc (.bool true)) := by
  have h0 := ev_awake19
  have h1 := ev_small19 p l up
  have h2 := ev_fits19 p l up
  have h3 := ev_make p hp l up
  have h4 := fun x w => ev_Follow19 p hp l (makeT p l up) x w
  have h5 := fun x w => ev_path p hp l up x w
  have h6 := fun a b => ev_equal a b
  have h7 := fun w => ev_Dist p hp l up w
  have h8 := fun x q hq => ev_legal p hp l x q hq
  unfold plV boolsV intsV tabV at *
  refine ev_fn Tryd.func7 comp7 (show 5 ≤ Tryd.f7.ntmps by decide) ?_; unfold cf7 rf7; simp only [↓EVP0, EVQ0, EVQ1, EVQ2, EVQ3, EVQ4, EVA, EVK, EVF,EVFT, ↓reduceIte, Nat.reduceEqDiff, Nat.reduceAdd, Nat.reduceSub, Nat.reduceMul, Nat.reduceLT, Nat.reduceLeDiff, reduceCtorEq, Int.reduceToNat, Int.reduceLT, Int.reduceLE, Int.reduceAdd, Int.reduceSub, Int.reduceMul, Int.reduceNeg, Int.reduceEq, Nat.reduceMod, forall_eq_or_imp, forall_eq, forall_const, cond_true, cond_false, decide_true, decide_false, true_imp_iff, implies_true, Int.cast_ofNat_Int, forall_eq']
  refine callK_ro (h0) ?_ ?_
  · simp only [↓EVP0, EVQ0, EVQ1, EVQ2, EVQ3, EVQ4, EVA, EVK, EVF,EVFT, ↓reduceIte, Nat.reduceEqDiff, Nat.reduceAdd, Nat.reduceSub, Nat.reduceMul, Nat.reduceLT, Nat.reduceLeDiff, reduceCtorEq, Int.reduceToNat, Int.reduceLT, Int.reduceLE, Int.reduceAdd, Int.reduceSub, Int.reduceMul, Int.reduceNeg, Int.reduceEq, Nat.reduceMod, forall_eq_or_imp, forall_eq, forall_const, cond_true, cond_false, decide_true, decide_false, true_imp_iff, implies_true, Int.cast_ofNat_Int, forall_eq']
  simp only [↓EVP0, EVQ0, EVQ1, EVQ2, EVQ3, EVQ4, EVA, EVK, EVF,EVFT, ↓reduceIte, Nat.reduceEqDiff, Nat.reduceAdd, Nat.reduceSub, Nat.reduceMul, Nat.reduceLT, Nat.reduceLeDiff, reduceCtorEq, Int.reduceToNat, Int.reduceLT, Int.reduceLE, Int.reduceAdd, Int.reduceSub, Int.reduceMul, Int.reduceNeg, Int.reduceEq, Nat.reduceMod, forall_eq_or_imp, forall_eq, forall_const, cond_true, cond_false, decide_true, decide_false, true_imp_iff, implies_true, Int.cast_ofNat_Int, forall_eq']
  refine callK_ro (h1) ?_ ?_
  · simp only [↓EVP0, EVQ0, EVQ1, EVQ2, EVQ3, EVQ4, EVA, EVK, EVF,EVFT, ↓reduceIte, Nat.reduceEqDiff, Nat.reduceAdd, Nat.reduceSub, Nat.reduceMul, Nat.reduceLT, Nat.reduceLeDiff, reduceCtorEq, Int.reduceToNat, Int.reduceLT, Int.reduceLE, Int.reduceAdd, Int.reduceSub, Int.reduceMul, Int.reduceNeg, Int.reduceEq, Nat.reduceMod, forall_eq_or_imp, forall_eq, forall_const, cond_true, cond_false, decide_true, decide_false, true_imp_iff, implies_true, Int.cast_ofNat_Int, forall_eq']
  simp only [↓EVP0, EVQ0, EVQ1, EVQ2, EVQ3, EVQ4, EVA, EVK, EVF,EVFT, ↓reduceIte, Nat.reduceEqDiff, Nat.reduceAdd, Nat.reduceSub, Nat.reduceMul, Nat.reduceLT, Nat.reduceLeDiff, reduceCtorEq, Int.reduceToNat, Int.reduceLT, Int.reduceLE, Int.reduceAdd, Int.reduceSub, Int.reduceMul, Int.reduceNeg, Int.reduceEq, Nat.reduceMod, forall_eq_or_imp, forall_eq, forall_const, cond_true, cond_false, decide_true, decide_false, true_imp_iff, implies_true, Int.cast_ofNat_Int, forall_eq']
  refine lops_ge_imp ?_
  simp only [↓EVP0, EVQ0, EVQ1, EVQ2, EVQ3, EVQ4, EVA, EVK, EVF,EVFT, ↓reduceIte, Nat.reduceEqDiff, Nat.reduceAdd, Nat.reduceSub, Nat.reduceMul, Nat.reduceLT, Nat.reduceLeDiff, reduceCtorEq, Int.reduceToNat, Int.reduceLT, Int.reduceLE, Int.reduceAdd, Int.reduceSub, Int.reduceMul, Int.reduceNeg, Int.reduceEq, Nat.reduceMod, forall_eq_or_imp, forall_eq, forall_const, cond_true, cond_false, decide_true, decide_false, true_imp_iff, implies_true, Int.cast_ofNat_Int, forall_eq']
  have hs : decide ((if smallB p l up = true then (1 : Int) else 0) = 0) = !smallB p l up := by cases smallB p l up <;> rfl
  rw [hs]
  refine gCallK_ro _ (fun _ => h2) (fun _ => ?_) ?_
  · simp only [↓EVP0, EVQ0, EVQ1, EVQ2, EVQ3, EVQ4, EVA, EVK, EVF,EVFT, ↓reduceIte, Nat.reduceEqDiff, Nat.reduceAdd, Nat.reduceSub, Nat.reduceMul, Nat.reduceLT, Nat.reduceLeDiff, reduceCtorEq, Int.reduceToNat, Int.reduceLT, Int.reduceLE, Int.reduceAdd, Int.reduceSub, Int.reduceMul, Int.reduceNeg, Int.reduceEq, Nat.reduceMod, forall_eq_or_imp, forall_eq, forall_const, cond_true, cond_false, decide_true, decide_false, true_imp_iff, implies_true, Int.cast_ofNat_Int, forall_eq']
  simp only [↓EVP0, EVQ0, EVQ1, EVQ2, EVQ3, EVQ4, EVA, EVK, EVF,EVFT, ↓reduceIte, Nat.reduceEqDiff, Nat.reduceAdd, Nat.reduceSub, Nat.reduceMul, Nat.reduceLT, Nat.reduceLeDiff, reduceCtorEq, Int.reduceToNat, Int.reduceLT, Int.reduceLE, Int.reduceAdd, Int.reduceSub, Int.reduceMul, Int.reduceNeg, Int.reduceEq, Nat.reduceMod, forall_eq_or_imp, forall_eq, forall_const, cond_true, cond_false, decide_true, decide_false, true_imp_iff, implies_true, Int.cast_ofNat_Int, forall_eq']
  refine ⟨fun _ => trivial, fun hg => ?_⟩
  have c1 : smallB p l up = true := by
    cases h : smallB p l up
    · rw [h] at hg; simp at hg
    · rfl
  have c2 : fitB19 p l up = true := by
    cases h : fitB19 p l up
    · rw [c1, h] at hg; simp at hg
    · rfl
  have hN : (p.ns.length : Int) ≠ 0 := by
    intro h
    rw [c1, c2, decide_eq_true h] at hg; simp at hg
  have h88 : p.ns.length ≤ 8 := by
    unfold smallB at c1
    simp only [Bool.and_eq_true, decide_eq_true_eq] at c1
    exact c1.1
  obtain ⟨hv, ho, hup⟩ := fit_of c2
  have hO := ord_of ho
  have hll := hO.len
  have h3 := h3 h88
  rw [show makeE p l up = (makeT p l up, 0) by unfold makeE; rw [if_pos ⟨ho, hup⟩]] at h3
  have hA : 0 ≤ fr.tmod (p.ns.length : Int) ∧ fr.tmod (p.ns.length : Int) < (p.ns.length : Int) := ⟨Int.tmod_nonneg _ hfr.1, Int.tmod_lt_of_pos _ (by omega)⟩
  have hW : 0 ≤ ti.tmod (p.ns.length : Int) ∧ ti.tmod (p.ns.length : Int) < (p.ns.length : Int) := ⟨Int.tmod_nonneg _ hti.1, Int.tmod_lt_of_pos _ (by omega)⟩
  refine ⟨by unfold In64; omega, hN, by unfold In64; omega, hN, ?_⟩
  generalize hAe : fr.tmod (p.ns.length : Int) = A at hA ⊢
  generalize hWe : ti.tmod (p.ns.length : Int) = W at hW ⊢
  obtain ⟨a, rfl⟩ : ∃ a : Nat, A = (a : Int) := ⟨A.toNat, by omega⟩
  obtain ⟨w, rfl⟩ : ∃ w : Nat, W = (w : Int) := ⟨W.toNat, by omega⟩
  have ha : a < p.ns.length := by omega
  have hw : w < p.ns.length := by omega
  have hLM := folE_make c2 ha hw
  have hLC := chosen_law c2 ha hw
  refine callK_ro (h3) ?_ ?_
  · simp only [↓EVP0, EVQ0, EVQ1, EVQ2, EVQ3, EVQ4, EVA, EVK, EVF,EVFT, ↓reduceIte, Nat.reduceEqDiff, Nat.reduceAdd, Nat.reduceSub, Nat.reduceMul, Nat.reduceLT, Nat.reduceLeDiff, reduceCtorEq, Int.reduceToNat, Int.reduceLT, Int.reduceLE, Int.reduceAdd, Int.reduceSub, Int.reduceMul, Int.reduceNeg, Int.reduceEq, Nat.reduceMod, forall_eq_or_imp, forall_eq, forall_const, cond_true, cond_false, decide_true, decide_false, true_imp_iff, implies_true, Int.cast_ofNat_Int, forall_eq']
  simp only [↓EVP0, EVQ0, EVQ1, EVQ2, EVQ3, EVQ4, EVA, EVK, EVF,EVFT, ↓reduceIte, Nat.reduceEqDiff, Nat.reduceAdd, Nat.reduceSub, Nat.reduceMul, Nat.reduceLT, Nat.reduceLeDiff, reduceCtorEq, Int.reduceToNat, Int.reduceLT, Int.reduceLE, Int.reduceAdd, Int.reduceSub, Int.reduceMul, Int.reduceNeg, Int.reduceEq, Nat.reduceMod, forall_eq_or_imp, forall_eq, forall_const, cond_true, cond_false, decide_true, decide_false, true_imp_iff, implies_true, Int.cast_ofNat_Int, forall_eq']
  have h41 := h4 a w
  refine callK_ro (h41) ?_ ?_
  · simp only [↓EVP0, EVQ0, EVQ1, EVQ2, EVQ3, EVQ4, EVA, EVK, EVF,EVFT, ↓reduceIte, Nat.reduceEqDiff, Nat.reduceAdd, Nat.reduceSub, Nat.reduceMul, Nat.reduceLT, Nat.reduceLeDiff, reduceCtorEq, Int.reduceToNat, Int.reduceLT, Int.reduceLE, Int.reduceAdd, Int.reduceSub, Int.reduceMul, Int.reduceNeg, Int.reduceEq, Nat.reduceMod, forall_eq_or_imp, forall_eq, forall_const, cond_true, cond_false, decide_true, decide_false, true_imp_iff, implies_true, Int.cast_ofNat_Int, forall_eq']
  simp only [↓EVP0, EVQ0, EVQ1, EVQ2, EVQ3, EVQ4, EVA, EVK, EVF,EVFT, ↓reduceIte, Nat.reduceEqDiff, Nat.reduceAdd, Nat.reduceSub, Nat.reduceMul, Nat.reduceLT, Nat.reduceLeDiff, reduceCtorEq, Int.reduceToNat, Int.reduceLT, Int.reduceLE, Int.reduceAdd, Int.reduceSub, Int.reduceMul, Int.reduceNeg, Int.reduceEq, Nat.reduceMod, forall_eq_or_imp, forall_eq, forall_const, cond_true, cond_false, decide_true, decide_false, true_imp_iff, implies_true, Int.cast_ofNat_Int, forall_eq']
  have h51 := h5 a w
  refine callK_ro (h51) ?_ ?_
  · simp only [↓EVP0, EVQ0, EVQ1, EVQ2, EVQ3, EVQ4, EVA, EVK, EVF,EVFT, ↓reduceIte, Nat.reduceEqDiff, Nat.reduceAdd, Nat.reduceSub, Nat.reduceMul, Nat.reduceLT, Nat.reduceLeDiff, reduceCtorEq, Int.reduceToNat, Int.reduceLT, Int.reduceLE, Int.reduceAdd, Int.reduceSub, Int.reduceMul, Int.reduceNeg, Int.reduceEq, Nat.reduceMod, forall_eq_or_imp, forall_eq, forall_const, cond_true, cond_false, decide_true, decide_false, true_imp_iff, implies_true, Int.cast_ofNat_Int, forall_eq']
  simp only [↓EVP0, EVQ0, EVQ1, EVQ2, EVQ3, EVQ4, EVA, EVK, EVF,EVFT, ↓reduceIte, Nat.reduceEqDiff, Nat.reduceAdd, Nat.reduceSub, Nat.reduceMul, Nat.reduceLT, Nat.reduceLeDiff, reduceCtorEq, Int.reduceToNat, Int.reduceLT, Int.reduceLE, Int.reduceAdd, Int.reduceSub, Int.reduceMul, Int.reduceNeg, Int.reduceEq, Nat.reduceMod, forall_eq_or_imp, forall_eq, forall_const, cond_true, cond_false, decide_true, decide_false, true_imp_iff, implies_true, Int.cast_ofNat_Int, forall_eq']
  by_cases e1 : a = w
  · rw [if_pos e1] at hLM
    rw [hLM]
    refine ⟨fun _ => rfl, fun h => ?_⟩
    rw [decide_eq_true (show (a : Int) = (w : Int) by omega)] at h
    simp at h
  rw [decide_eq_false (show ¬ (a : Int) = (w : Int) by omega)]
  refine ⟨fun h => by simp at h, fun _ => ?_⟩
  rcases hLC e1 with ⟨q1, q2⟩ | ⟨path, q1, q2, q3, q4, q5⟩
  · rw [q1, q2]
    have h61 := h6 [] []
    rw [decide_eq_true rfl] at h61
    (refine lops_ge_imp ?_; simp only [↓EVP0, EVQ0, EVQ1, EVQ2, EVQ3, EVQ4, EVA, EVK, EVF,EVFT, ↓reduceIte, Nat.reduceEqDiff, Nat.reduceAdd, Nat.reduceSub, Nat.reduceMul, Nat.reduceLT, Nat.reduceLeDiff, reduceCtorEq, Int.reduceToNat, Int.reduceLT, Int.reduceLE, Int.reduceAdd, Int.reduceSub, Int.reduceMul, Int.reduceNeg, Int.reduceEq, Nat.reduceMod, forall_eq_or_imp, forall_eq, forall_const, cond_true, cond_false, decide_true, decide_false, true_imp_iff, implies_true, Int.cast_ofNat_Int, forall_eq'])
    refine gCallK_ro _ (fun _ => h61) (fun _ => ?_) ?_
    · simp only [↓EVP0, EVQ0, EVQ1, EVQ2, EVQ3, EVQ4, EVA, EVK, EVF,EVFT, ↓reduceIte, Nat.reduceEqDiff, Nat.reduceAdd, Nat.reduceSub, Nat.reduceMul, Nat.reduceLT, Nat.reduceLeDiff, reduceCtorEq, Int.reduceToNat, Int.reduceLT, Int.reduceLE, Int.reduceAdd, Int.reduceSub, Int.reduceMul, Int.reduceNeg, Int.reduceEq, Nat.reduceMod, forall_eq_or_imp, forall_eq, forall_const, cond_true, cond_false, decide_true, decide_false, true_imp_iff, implies_true, Int.cast_ofNat_Int, forall_eq']
    simp only [↓EVP0, EVQ0, EVQ1, EVQ2, EVQ3, EVQ4, EVA, EVK, EVF,EVFT, ↓reduceIte, Nat.reduceEqDiff, Nat.reduceAdd, Nat.reduceSub, Nat.reduceMul, Nat.reduceLT, Nat.reduceLeDiff, reduceCtorEq, Int.reduceToNat, Int.reduceLT, Int.reduceLE, Int.reduceAdd, Int.reduceSub, Int.reduceMul, Int.reduceNeg, Int.reduceEq, Nat.reduceMod, forall_eq_or_imp, forall_eq, forall_const, cond_true, cond_false, decide_true, decide_false, true_imp_iff, implies_true, Int.cast_ofNat_Int, forall_eq']
  · rw [q1, q2]
    have h61 := h6 path path
    rw [decide_eq_true rfl] at h61
    (refine lops_ge_imp ?_; simp only [↓EVP0, EVQ0, EVQ1, EVQ2, EVQ3, EVQ4, EVA, EVK, EVF,EVFT, ↓reduceIte, Nat.reduceEqDiff, Nat.reduceAdd, Nat.reduceSub, Nat.reduceMul, Nat.reduceLT, Nat.reduceLeDiff, reduceCtorEq, Int.reduceToNat, Int.reduceLT, Int.reduceLE, Int.reduceAdd, Int.reduceSub, Int.reduceMul, Int.reduceNeg, Int.reduceEq, Nat.reduceMod, forall_eq_or_imp, forall_eq, forall_const, cond_true, cond_false, decide_true, decide_false, true_imp_iff, implies_true, Int.cast_ofNat_Int, forall_eq'])
    refine gCallK_ro _ (fun _ => h61) (fun _ => ?_) ?_
    · simp only [↓EVP0, EVQ0, EVQ1, EVQ2, EVQ3, EVQ4, EVA, EVK, EVF,EVFT, ↓reduceIte, Nat.reduceEqDiff, Nat.reduceAdd, Nat.reduceSub, Nat.reduceMul, Nat.reduceLT, Nat.reduceLeDiff, reduceCtorEq, Int.reduceToNat, Int.reduceLT, Int.reduceLE, Int.reduceAdd, Int.reduceSub, Int.reduceMul, Int.reduceNeg, Int.reduceEq, Nat.reduceMod, forall_eq_or_imp, forall_eq, forall_const, cond_true, cond_false, decide_true, decide_false, true_imp_iff, implies_true, Int.cast_ofNat_Int, forall_eq']
    simp only [↓EVP0, EVQ0, EVQ1, EVQ2, EVQ3, EVQ4, EVA, EVK, EVF,EVFT, ↓reduceIte, Nat.reduceEqDiff, Nat.reduceAdd, Nat.reduceSub, Nat.reduceMul, Nat.reduceLT, Nat.reduceLeDiff, reduceCtorEq, Int.reduceToNat, Int.reduceLT, Int.reduceLE, Int.reduceAdd, Int.reduceSub, Int.reduceMul, Int.reduceNeg, Int.reduceEq, Nat.reduceMod, forall_eq_or_imp, forall_eq, forall_const, cond_true, cond_false, decide_true, decide_false, true_imp_iff, implies_true, Int.cast_ofNat_Int, forall_eq']
    have h71 := h7 w
    have ed : distE p l up w = ((dL p.ns.length l p.cs up w false p.ns.length, dL p.ns.length l p.cs up w true p.ns.length), 0) := by
      unfold distE; rw [if_pos ⟨ho, hup⟩, if_pos (nodB_nat hw)]
    rw [ed] at h71
    have hget : (dL p.ns.length l p.cs up w false p.ns.length).getD a 0 = dS p.ns.length l p.cs up w (a, false) := by
      rw [dL_get (y := (a : Int)) (by unfold inN; omega), Int.toNat_natCast]
    have hlen := dL_len p.ns.length l p.cs up w false p.ns.length
    refine callK_ro (h71) ?_ ?_
    · simp only [↓EVP0, EVQ0, EVQ1, EVQ2, EVQ3, EVQ4, EVA, EVK, EVF,EVFT, ↓reduceIte, Nat.reduceEqDiff, Nat.reduceAdd, Nat.reduceSub, Nat.reduceMul, Nat.reduceLT, Nat.reduceLeDiff, reduceCtorEq, Int.reduceToNat, Int.reduceLT, Int.reduceLE, Int.reduceAdd, Int.reduceSub, Int.reduceMul, Int.reduceNeg, Int.reduceEq, Nat.reduceMod, forall_eq_or_imp, forall_eq, forall_const, cond_true, cond_false, decide_true, decide_false, true_imp_iff, implies_true, Int.cast_ofNat_Int, forall_eq']
    simp only [↓EVP0, EVQ0, EVQ1, EVQ2, EVQ3, EVQ4, EVA, EVK, EVF,EVFT, ↓reduceIte, Nat.reduceEqDiff, Nat.reduceAdd, Nat.reduceSub, Nat.reduceMul, Nat.reduceLT, Nat.reduceLeDiff, reduceCtorEq, Int.reduceToNat, Int.reduceLT, Int.reduceLE, Int.reduceAdd, Int.reduceSub, Int.reduceMul, Int.reduceNeg, Int.reduceEq, Nat.reduceMod, forall_eq_or_imp, forall_eq, forall_const, cond_true, cond_false, decide_true, decide_false, true_imp_iff, implies_true, Int.cast_ofNat_Int, forall_eq']
    rw [hlen]
    have h81 := h8 a path q3
    rw [q4] at h81
    rw [hget, q5, decide_eq_true rfl, decide_eq_true rfl]
    refine ⟨fun _ => ⟨by omega, by omega⟩, ?_⟩
    (refine lops_ge_imp ?_; simp only [↓EVP0, EVQ0, EVQ1, EVQ2, EVQ3, EVQ4, EVA, EVK, EVF,EVFT, ↓reduceIte, Nat.reduceEqDiff, Nat.reduceAdd, Nat.reduceSub, Nat.reduceMul, Nat.reduceLT, Nat.reduceLeDiff, reduceCtorEq, Int.reduceToNat, Int.reduceLT, Int.reduceLE, Int.reduceAdd, Int.reduceSub, Int.reduceMul, Int.reduceNeg, Int.reduceEq, Nat.reduceMod, forall_eq_or_imp, forall_eq, forall_const, cond_true, cond_false, decide_true, decide_false, true_imp_iff, implies_true, Int.cast_ofNat_Int, forall_eq'])
    refine gCallK_ro _ (fun _ => h81) (fun _ => ?_) ?_
    · simp only [↓EVP0, EVQ0, EVQ1, EVQ2, EVQ3, EVQ4, EVA, EVK, EVF,EVFT, ↓reduceIte, Nat.reduceEqDiff, Nat.reduceAdd, Nat.reduceSub, Nat.reduceMul, Nat.reduceLT, Nat.reduceLeDiff, reduceCtorEq, Int.reduceToNat, Int.reduceLT, Int.reduceLE, Int.reduceAdd, Int.reduceSub, Int.reduceMul, Int.reduceNeg, Int.reduceEq, Nat.reduceMod, forall_eq_or_imp, forall_eq, forall_const, cond_true, cond_false, decide_true, decide_false, true_imp_iff, implies_true, Int.cast_ofNat_Int, forall_eq']
    simp only [↓EVP0, EVQ0, EVQ1, EVQ2, EVQ3, EVQ4, EVA, EVK, EVF,EVFT, ↓reduceIte, Nat.reduceEqDiff, Nat.reduceAdd, Nat.reduceSub, Nat.reduceMul, Nat.reduceLT, Nat.reduceLeDiff, reduceCtorEq, Int.reduceToNat, Int.reduceLT, Int.reduceLE, Int.reduceAdd, Int.reduceSub, Int.reduceMul, Int.reduceNeg, Int.reduceEq, Nat.reduceMod, forall_eq_or_imp, forall_eq, forall_const, cond_true, cond_false, decide_true, decide_false, true_imp_iff, implies_true, Int.cast_ofNat_Int, forall_eq']
end Go.Proofs.YtcdepkflghcjpaaDoor
namespace Go.Proofs.YtcdepkflghcjpaaDoor
set_option linter.unusedSimpArgs false
set_option linter.unusedVariables false
open Go.RowKit
set_option maxRecDepth 20000

end Go.Proofs.YtcdepkflghcjpaaDoor
namespace Go.Proofs.YtcdepkflghcjpaaDoor
set_option linter.unusedSimpArgs false
set_option linter.unusedVariables false
open Go.RowKit
set_option maxRecDepth 20000

end Go.Proofs.YtcdepkflghcjpaaDoor
