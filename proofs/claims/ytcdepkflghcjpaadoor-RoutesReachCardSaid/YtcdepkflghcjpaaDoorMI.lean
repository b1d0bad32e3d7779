/- Chapter 19: following a table, step by step; Chapter 19: following the table of an order takes the chosen path; Chapter 19: the rest of a path that is followed is the path from the node that is reached; Chapter 19: following the table of an order takes the chosen path; Chapter 19: which tables lead from any node to any other one; Chapter 19: the table of the order of the same cables reaches every node with a level. Conditions: none. -/
import Derived.Test.YtcdepkflghcjpaaDoorMH
namespace Go.Proofs.YtcdepkflghcjpaaDoor
set_option linter.unusedSimpArgs false
set_option linter.unusedVariables false
open Go.RowKit
set_option maxRecDepth 20000

abbrev Rf := Nat → Bool → Bool
def rfF (r : Rf) (i : Nat) : List LV := [.sc (.bool (r i false)), .sc (.bool (r i true))]
def rfSet (r : Rf) (x : Nat) (b : Bool) : Rf := fun i c => if i = x ∧ c = b then true else r i c
def rfCnt (n : Nat) (r : Rf) : Nat := ((List.range n).map fun i => (if r i false = true then 0 else 1) + (if r i true = true then 0 else 1)).sum
def tabE (t : Tb) (x : Nat) (b : Bool) (w : Nat) : Int := (bif b then (t.getD x ([], [])).2 else (t.getD x ([], [])).1).getD w 0
def fol (p : Pl) (l : List Int) (t : Tb) (w : Nat) : Nat → Rf → Nat → Bool → List Int → List Int × Int
  | 0, _, _, _, _ => ([], 11)
  | k + 1, r, x, b, path => if r x b = true then ([], 11) else if tabE t x b w = -2 then (path, 0) else if tabE t x b w = -1 then ([], 12) else
      fol p l t w k (rfSet r x b) (acrE (p.cs.getD (tabE t x b w).toNat default) x).1.toNat (b || !aboveB l (acrE (p.cs.getD (tabE t x b w).toNat default) x).1 x) (path ++ [tabE t x b w])
theorem sum_map_lt {n x : Nat} (hx : x < n) {f g : Nat → Nat} (h1 : ∀ i, i ≠ x → f i = g i) (h2 : f x + 1 = g x) : ((List.range n).map f).sum + 1 = ((List.range n).map g).sum := by
  induction n with
  | zero => omega
  | succ n ih =>
    rw [List.range_succ, List.map_append, List.map_append, List.sum_append, List.sum_append]
    simp only [List.map_cons, List.map_nil, List.sum_cons, List.sum_nil, Nat.add_zero]
    by_cases e : x = n
    · subst e
      have : (List.range x).map f = (List.range x).map g := List.map_congr_left fun i hi => h1 i (by have := List.mem_range.1 hi; omega)
      rw [this]; omega
    · have := ih (by omega)
      rw [h1 n (by omega)]; omega
theorem rfCnt_set {n : Nat} {r : Rf} {x : Nat} {b : Bool} (hx : x < n) (hr : r x b = false) : rfCnt n (rfSet r x b) + 1 = rfCnt n r := by
  unfold rfCnt
  refine sum_map_lt hx (fun i hi => ?_) ?_
  · unfold rfSet; simp [hi]
  · unfold rfSet
    cases b <;> simp [hr] <;> omega
theorem rf_row {n : Nat} (r : Rf) (y : Nat) (b : Bool) : (LO.row 2 n fun j => if j = y then (rfF r y).set (bif b then 1 else 0) (.sc (.bool true)) else rfF r j) = LO.row 2 n (rfF (rfSet r y b)) := by
  congr 1
  funext j
  by_cases e : j = y
  · subst e
    rw [if_pos rfl]
    cases b
    · show [LV.sc (.bool true), .sc (.bool (r j true))] = _
      unfold rfF rfSet; simp
    · show [LV.sc (.bool (r j false)), .sc (.bool true)] = _
      unfold rfF rfSet; simp
  · rw [if_neg e]
    unfold rfF rfSet; simp [e]
theorem ev_follow (p : Pl) (hv : validE p = 0) (l : List Int) (t : Tb) (ht : validT p t = true) (x w : Int) (hx : inN p.ns.length x) (hw : inN p.ns.length w) :
    Ev Tryd.prog 48 [plV p, .agg [intsV l], tabV t, .sc (.int .i64 x), .sc (.int .i64 w)] (.tup [intsV (fol p l t w.toNat (rfCnt p.ns.length (fun _ _ => false) + 1) (fun _ _ => false) x.toNat false []).1, .sc (.int .i64 (fol p l t w.toNat (rfCnt p.ns.length (fun _ _ => false) + 1) (fun _ _ => false) x.toNat false []).2)]) := by
  have h1 := fun c y => ev_across19 (p.cs.getD c default) y
  have h2 := fun a b => ev_above l a b
  have h16 := (valid_of hv).n16
  unfold cbL at h1
  unfold plV intsV tabV at *
  refine ev_fn Tryd.func48 comp48 (show 5 ≤ Tryd.f48.ntmps by decide) ?_; unfold cf48 rf48; simp only [↓EVP0, EVQ0, EVQ1, EVQ2, EVQ3, EVQ4, EVA, EVK, EVF,EVFT, ↓reduceIte, Nat.reduceEqDiff, Nat.reduceAdd, Nat.reduceSub, Nat.reduceMul, Nat.reduceLT, Nat.reduceLeDiff, reduceCtorEq, Int.reduceToNat, Int.reduceLT, Int.reduceLE, Int.reduceAdd, Int.reduceSub, Int.reduceMul, Int.reduceNeg, Int.reduceEq, Nat.reduceMod, forall_eq_or_imp, forall_eq, forall_const, cond_true, cond_false, decide_true, decide_false, true_imp_iff, implies_true, Int.cast_ofNat_Int, forall_eq']
  generalize hR : fol p l t w.toNat (rfCnt p.ns.length (fun _ _ => false) + 1) (fun _ _ => false) x.toNat false [] = R
  intro _
  refine ⟨by unfold mksC; omega, ?_⟩
  refine lwp_loop (α := Rf × Nat × Bool × List Int) (fun q => q.2.1 < p.ns.length ∧ q.2.2.2.length + rfCnt p.ns.length q.1 = rfCnt p.ns.length (fun _ _ => false) ∧ fol p l t w.toNat (rfCnt p.ns.length q.1 + 1) q.1 q.2.1 q.2.2.1 q.2.2.2 = R)
    (fun q => [(4, .sc (.int .i64 w)), (5, .ptr 0 0 0 0 0), (6, .ptr 1 0 0 0 0), (7, .ptr 2 0 0 0 0), (12, .sl 3 q.2.2.2.length 1 0 q.2.2.2.length), (13, .sl 4 0 2 0 p.ns.length), (14, .sc (.int .i64 q.2.1)), (15, .sc (.int .i64 (if q.2.2.1 = true then 1 else 0)))])
    (fun q => [(0, .box [.rsl 3 p.ns.length (ndsF p.ns), .rsl 6 p.cs.length (cbsF p.cs)]), (0, .box [.rsl 1 l.length (intsF l)]), (0, .box [.rsl 2 t.length (tabF t)]), (q.2.2.2.length, .ints q.2.2.2), (0, .row 2 p.ns.length (rfF q.1))]) (fun q => rfCnt p.ns.length q.1) (fun _ _ => false, x.toNat, false, []) ⟨by unfold inN at hx; simp only; omega, by simp, hR⟩ ?_ (fun _ => Nat.zero_le _) ?_
  · simp only [↓EVP0, EVQ0, EVQ1, EVQ2, EVQ3, EVQ4, EVA, EVK, EVF,EVFT, ↓reduceIte, Nat.reduceEqDiff, Nat.reduceAdd, Nat.reduceSub, Nat.reduceMul, Nat.reduceLT, Nat.reduceLeDiff, reduceCtorEq, Int.reduceToNat, Int.reduceLT, Int.reduceLE, Int.reduceAdd, Int.reduceSub, Int.reduceMul, Int.reduceNeg, Int.reduceEq, Nat.reduceMod, forall_eq_or_imp, forall_eq, forall_const, cond_true, cond_false, decide_true, decide_false, true_imp_iff, implies_true, Int.cast_ofNat_Int, forall_eq']
    unfold inN at hx
    exact ⟨by omega, rfl, fun i _ => ⟨trivial, trivial, trivial⟩⟩
  have htl : t.length = p.ns.length := by
    unfold validT at ht
    simp only [Bool.and_eq_true, decide_eq_true_eq] at ht
    exact ht.2.1
  have hrows : ∀ y, y < p.ns.length → rowB19 p y (t.getD y ([], [])).1 = true ∧ rowB19 p y (t.getD y ([], [])).2 = true := by
    intro y hy
    unfold validT at ht
    simp only [Bool.and_eq_true, decide_eq_true_eq, List.all_eq_true] at ht
    exact ht.2.2 y (List.mem_range.2 (by omega))
  have hrow : ∀ y, y < p.ns.length → (t.getD y ([], [])).1.length = p.ns.length ∧ (t.getD y ([], [])).2.length = p.ns.length := by
    intro y hy
    obtain ⟨h3, h4⟩ := hrows y hy
    unfold rowB19 at h3 h4
    simp only [Bool.and_eq_true, decide_eq_true_eq] at h3 h4
    exact ⟨h3.1, h4.1⟩
  have hpe : ∀ y b, y < p.ns.length → permB p (y : Nat) (w.toNat : Nat) (tabE t y b w.toNat) = true := by
    intro y b hy
    obtain ⟨h3, h4⟩ := hrows y hy
    obtain ⟨h5, h6⟩ := hrow y hy
    unfold rowB19 at h3 h4
    simp only [Bool.and_eq_true, decide_eq_true_eq, List.all_eq_true] at h3 h4
    have hwn : w.toNat < p.ns.length := by unfold inN at hw; omega
    cases b
    · exact h3.2 w.toNat (List.mem_range.2 (by omega))
    · exact h4.2 w.toNat (List.mem_range.2 (by omega))
  have hperm : ∀ y b, y < p.ns.length → (tabE t y b w.toNat ≠ -2 → tabE t y b w.toNat ≠ -1 → 0 ≤ tabE t y b w.toNat ∧ tabE t y b w.toNat < p.cs.length ∧ (acrE (p.cs.getD (tabE t y b w.toNat).toNat default) (y : Int)).2 = true) := by
    intro y b hy n2 n1
    have h7 := hpe y b hy
    unfold permB at h7
    rw [decide_eq_false n2, decide_eq_false n1, Bool.or_false, Bool.and_false, Bool.false_or] at h7
    cases e : decide ((y : Int) = (w.toNat : Nat))
    · rw [e, cond_false] at h7
      simp only [Bool.and_eq_true, decide_eq_true_eq] at h7
      exact h7
    · rw [e, cond_true] at h7; simp at h7
  unfold inN at hw
  have hcnt : rfCnt p.ns.length (fun _ _ => false) ≤ 32 := by
    have : ∀ n, rfCnt n (fun _ _ => false) = 2 * n := by
      intro n
      induction n with
      | zero => rfl
      | succ n ih =>
        unfold rfCnt at *
        rw [List.range_succ, List.map_append, List.sum_append, ih]
        simp
        omega
    rw [this]; omega
  rintro ⟨r, y, b, path⟩ ⟨i1, i2, i3⟩
  simp only at i1 i2 i3 ⊢
  rcases Bool.eq_false_or_eq_true b with rfl | rfl
  · have hcell : (List.drop 1 (rfF r y)).getD 0 LV.any = .sc (.bool (r y true)) := rfl
    have p1 := hperm y true i1
    have hrl := (hrow y i1).2
    have hte : tabE t y true w.toNat = (t.getD y ([], [])).2.getD w.toNat 0 := rfl
    unfold fol at i3
    rw [hte] at i3 p1
    generalize hc : (t.getD y ([], [])).2.getD w.toNat 0 = c at i3 p1
    unfold lb48_0
    simp only [hcell, ↓EVP0, EVQ0, EVQ1, EVQ2, EVQ3, EVQ4, EVA, EVK, EVF,EVFT, ↓reduceIte, Nat.reduceEqDiff, Nat.reduceAdd, Nat.reduceSub, Nat.reduceMul, Nat.reduceLT, Nat.reduceLeDiff, reduceCtorEq, Int.reduceToNat, Int.reduceLT, Int.reduceLE, Int.reduceAdd, Int.reduceSub, Int.reduceMul, Int.reduceNeg, Int.reduceEq, Nat.reduceMod, forall_eq_or_imp, forall_eq, forall_const, cond_true, cond_false, decide_true, decide_false, true_imp_iff, implies_true, Int.cast_ofNat_Int, forall_eq']
    rw [hc, hrl]
    refine ⟨⟨by omega, by omega⟩, ⟨by decide, i1, rfl⟩, fun hr => ?_, fun hr => ⟨⟨by omega, by omega⟩, ⟨i1, rfl⟩, ⟨by omega, by omega⟩, ⟨by omega, by omega⟩, fun h3 => ?_, fun h3 => ⟨fun h4 => ?_, fun h4 => ?_⟩⟩⟩
    · rw [if_pos hr] at i3
      rw [← i3]; exact ⟨rfl, rfl⟩
    · rw [if_neg (by rw [hr]; simp), if_pos (of_decide_eq_true h3)] at i3
      rw [← i3]; exact ⟨⟨rfl, Nat.le_refl _, fun i _ => rfl⟩, rfl⟩
    · rw [if_neg (by rw [hr]; simp), if_neg (of_decide_eq_false h3), if_pos (of_decide_eq_true h4)] at i3
      rw [← i3]; exact ⟨rfl, rfl⟩
    rw [if_neg (by rw [hr]; simp), if_neg (of_decide_eq_false h3), if_neg (of_decide_eq_false h4)] at i3
    obtain ⟨c1, c2, c3⟩ := p1 (of_decide_eq_false h3) (of_decide_eq_false h4)
    have hcs := rfCnt_set i1 hr
    refine ⟨Nat.le_refl _, by unfold appRoom; omega, ⟨c1, c2⟩, ?_⟩
    refine callK_ro (h1 c.toNat y) ?_ ?_
    · simp only [↓EVP0, EVQ0, EVQ1, EVQ2, EVQ3, EVQ4, EVA, EVK, EVF,EVFT, ↓reduceIte, Nat.reduceEqDiff, Nat.reduceAdd, Nat.reduceSub, Nat.reduceMul, Nat.reduceLT, Nat.reduceLeDiff, reduceCtorEq, Int.reduceToNat, Int.reduceLT, Int.reduceLE, Int.reduceAdd, Int.reduceSub, Int.reduceMul, Int.reduceNeg, Int.reduceEq, Nat.reduceMod, forall_eq_or_imp, forall_eq, forall_const, cond_true, cond_false, decide_true, decide_false, true_imp_iff, implies_true, Int.cast_ofNat_Int, forall_eq']
    simp only [↓EVP0, EVQ0, EVQ1, EVQ2, EVQ3, EVQ4, EVA, EVK, EVF,EVFT, ↓reduceIte, Nat.reduceEqDiff, Nat.reduceAdd, Nat.reduceSub, Nat.reduceMul, Nat.reduceLT, Nat.reduceLeDiff, reduceCtorEq, Int.reduceToNat, Int.reduceLT, Int.reduceLE, Int.reduceAdd, Int.reduceSub, Int.reduceMul, Int.reduceNeg, Int.reduceEq, Nat.reduceMod, forall_eq_or_imp, forall_eq, forall_const, cond_true, cond_false, decide_true, decide_false, true_imp_iff, implies_true, Int.cast_ofNat_Int, forall_eq']
    have hy := acr_in hv ⟨c1, c2⟩ c3
    generalize (acrE (p.cs.getD c.toNat default) y).1 = z at hy i3 ⊢
    refine callK_ro (h2 z y) ?_ ?_
    · simp only [↓EVP0, EVQ0, EVQ1, EVQ2, EVQ3, EVQ4, EVA, EVK, EVF,EVFT, ↓reduceIte, Nat.reduceEqDiff, Nat.reduceAdd, Nat.reduceSub, Nat.reduceMul, Nat.reduceLT, Nat.reduceLeDiff, reduceCtorEq, Int.reduceToNat, Int.reduceLT, Int.reduceLE, Int.reduceAdd, Int.reduceSub, Int.reduceMul, Int.reduceNeg, Int.reduceEq, Nat.reduceMod, forall_eq_or_imp, forall_eq, forall_const, cond_true, cond_false, decide_true, decide_false, true_imp_iff, implies_true, Int.cast_ofNat_Int, forall_eq']
    simp only [↓EVP0, EVQ0, EVQ1, EVQ2, EVQ3, EVQ4, EVA, EVK, EVF,EVFT, ↓reduceIte, Nat.reduceEqDiff, Nat.reduceAdd, Nat.reduceSub, Nat.reduceMul, Nat.reduceLT, Nat.reduceLeDiff, reduceCtorEq, Int.reduceToNat, Int.reduceLT, Int.reduceLE, Int.reduceAdd, Int.reduceSub, Int.reduceMul, Int.reduceNeg, Int.reduceEq, Nat.reduceMod, forall_eq_or_imp, forall_eq, forall_const, cond_true, cond_false, decide_true, decide_false, true_imp_iff, implies_true, Int.cast_ofNat_Int, forall_eq']
    have hzb : 0 ≤ z ∧ z < p.ns.length := by unfold inN at hy; exact hy
    refine ⟨fun hg => ⟨(rfSet r y true, z.toNat, (true || !aboveB l z y), path ++ [c]), ⟨by show z.toNat < _; omega, ?_, ?_⟩, ⟨⟨?_, ?_, ?_⟩, ⟨?_, ?_⟩, rf_row r y true, fun i _ => ⟨trivial, trivial, trivial⟩⟩, by show rfCnt _ (rfSet r y true) < _; omega⟩, fun hg => ⟨(rfSet r y true, z.toNat, (true || !aboveB l z y), path ++ [c]), ⟨by show z.toNat < _; omega, ?_, ?_⟩, ⟨⟨?_, ?_, ?_⟩, ⟨?_, ?_⟩, rf_row r y true, fun i _ => ⟨trivial, trivial, trivial⟩⟩, by show rfCnt _ (rfSet r y true) < _; omega⟩⟩
    all_goals simp only
    all_goals first
      | (rw [hcs]; exact i3)
      | (rw [hg]; rfl)
      | (rw [List.take_length])
      | (rw [List.length_append]; rfl)
      | (rw [List.length_append, List.length_singleton]; omega)
      | omega
      | rfl
  · have hcell : (rfF r y).getD 0 LV.any = .sc (.bool (r y false)) := rfl
    have p1 := hperm y false i1
    have hrl := (hrow y i1).1
    have hte : tabE t y false w.toNat = (t.getD y ([], [])).1.getD w.toNat 0 := rfl
    unfold fol at i3
    rw [hte] at i3 p1
    generalize hc : (t.getD y ([], [])).1.getD w.toNat 0 = c at i3 p1
    unfold lb48_0
    simp only [hcell, ↓EVP0, EVQ0, EVQ1, EVQ2, EVQ3, EVQ4, EVA, EVK, EVF,EVFT, ↓reduceIte, Nat.reduceEqDiff, Nat.reduceAdd, Nat.reduceSub, Nat.reduceMul, Nat.reduceLT, Nat.reduceLeDiff, reduceCtorEq, Int.reduceToNat, Int.reduceLT, Int.reduceLE, Int.reduceAdd, Int.reduceSub, Int.reduceMul, Int.reduceNeg, Int.reduceEq, Nat.reduceMod, forall_eq_or_imp, forall_eq, forall_const, cond_true, cond_false, decide_true, decide_false, true_imp_iff, implies_true, Int.cast_ofNat_Int, forall_eq']
    rw [hc, hrl]
    refine ⟨⟨by omega, by omega⟩, ⟨by decide, i1, rfl⟩, fun hr => ?_, fun hr => ⟨⟨by omega, by omega⟩, ⟨i1, rfl⟩, ⟨by omega, by omega⟩, ⟨by omega, by omega⟩, fun h3 => ?_, fun h3 => ⟨fun h4 => ?_, fun h4 => ?_⟩⟩⟩
    · rw [if_pos hr] at i3
      rw [← i3]; exact ⟨rfl, rfl⟩
    · rw [if_neg (by rw [hr]; simp), if_pos (of_decide_eq_true h3)] at i3
      rw [← i3]; exact ⟨⟨rfl, Nat.le_refl _, fun i _ => rfl⟩, rfl⟩
    · rw [if_neg (by rw [hr]; simp), if_neg (of_decide_eq_false h3), if_pos (of_decide_eq_true h4)] at i3
      rw [← i3]; exact ⟨rfl, rfl⟩
    rw [if_neg (by rw [hr]; simp), if_neg (of_decide_eq_false h3), if_neg (of_decide_eq_false h4)] at i3
    obtain ⟨c1, c2, c3⟩ := p1 (of_decide_eq_false h3) (of_decide_eq_false h4)
    have hcs := rfCnt_set i1 hr
    refine ⟨Nat.le_refl _, by unfold appRoom; omega, ⟨c1, c2⟩, ?_⟩
    refine callK_ro (h1 c.toNat y) ?_ ?_
    · simp only [↓EVP0, EVQ0, EVQ1, EVQ2, EVQ3, EVQ4, EVA, EVK, EVF,EVFT, ↓reduceIte, Nat.reduceEqDiff, Nat.reduceAdd, Nat.reduceSub, Nat.reduceMul, Nat.reduceLT, Nat.reduceLeDiff, reduceCtorEq, Int.reduceToNat, Int.reduceLT, Int.reduceLE, Int.reduceAdd, Int.reduceSub, Int.reduceMul, Int.reduceNeg, Int.reduceEq, Nat.reduceMod, forall_eq_or_imp, forall_eq, forall_const, cond_true, cond_false, decide_true, decide_false, true_imp_iff, implies_true, Int.cast_ofNat_Int, forall_eq']
    simp only [↓EVP0, EVQ0, EVQ1, EVQ2, EVQ3, EVQ4, EVA, EVK, EVF,EVFT, ↓reduceIte, Nat.reduceEqDiff, Nat.reduceAdd, Nat.reduceSub, Nat.reduceMul, Nat.reduceLT, Nat.reduceLeDiff, reduceCtorEq, Int.reduceToNat, Int.reduceLT, Int.reduceLE, Int.reduceAdd, Int.reduceSub, Int.reduceMul, Int.reduceNeg, Int.reduceEq, Nat.reduceMod, forall_eq_or_imp, forall_eq, forall_const, cond_true, cond_false, decide_true, decide_false, true_imp_iff, implies_true, Int.cast_ofNat_Int, forall_eq']
    have hy := acr_in hv ⟨c1, c2⟩ c3
    generalize (acrE (p.cs.getD c.toNat default) y).1 = z at hy i3 ⊢
    refine callK_ro (h2 z y) ?_ ?_
    · simp only [↓EVP0, EVQ0, EVQ1, EVQ2, EVQ3, EVQ4, EVA, EVK, EVF,EVFT, ↓reduceIte, Nat.reduceEqDiff, Nat.reduceAdd, Nat.reduceSub, Nat.reduceMul, Nat.reduceLT, Nat.reduceLeDiff, reduceCtorEq, Int.reduceToNat, Int.reduceLT, Int.reduceLE, Int.reduceAdd, Int.reduceSub, Int.reduceMul, Int.reduceNeg, Int.reduceEq, Nat.reduceMod, forall_eq_or_imp, forall_eq, forall_const, cond_true, cond_false, decide_true, decide_false, true_imp_iff, implies_true, Int.cast_ofNat_Int, forall_eq']
    simp only [↓EVP0, EVQ0, EVQ1, EVQ2, EVQ3, EVQ4, EVA, EVK, EVF,EVFT, ↓reduceIte, Nat.reduceEqDiff, Nat.reduceAdd, Nat.reduceSub, Nat.reduceMul, Nat.reduceLT, Nat.reduceLeDiff, reduceCtorEq, Int.reduceToNat, Int.reduceLT, Int.reduceLE, Int.reduceAdd, Int.reduceSub, Int.reduceMul, Int.reduceNeg, Int.reduceEq, Nat.reduceMod, forall_eq_or_imp, forall_eq, forall_const, cond_true, cond_false, decide_true, decide_false, true_imp_iff, implies_true, Int.cast_ofNat_Int, forall_eq']
    have hzb : 0 ≤ z ∧ z < p.ns.length := by unfold inN at hy; exact hy
    refine ⟨fun hg => ⟨(rfSet r y false, z.toNat, (false || !aboveB l z y), path ++ [c]), ⟨by show z.toNat < _; omega, ?_, ?_⟩, ⟨⟨?_, ?_, ?_⟩, ⟨?_, ?_⟩, rf_row r y false, fun i _ => ⟨trivial, trivial, trivial⟩⟩, by show rfCnt _ (rfSet r y false) < _; omega⟩, fun hg => ⟨(rfSet r y false, z.toNat, (false || !aboveB l z y), path ++ [c]), ⟨by show z.toNat < _; omega, ?_, ?_⟩, ⟨⟨?_, ?_, ?_⟩, ⟨?_, ?_⟩, rf_row r y false, fun i _ => ⟨trivial, trivial, trivial⟩⟩, by show rfCnt _ (rfSet r y false) < _; omega⟩⟩
    all_goals simp only
    all_goals first
      | (rw [hcs]; exact i3)
      | (rw [hg]; rfl)
      | (rw [List.take_length])
      | (rw [List.length_append]; rfl)
      | (rw [List.length_append, List.length_singleton]; omega)
      | omega
      | rfl
end Go.Proofs.YtcdepkflghcjpaaDoor
namespace Go.Proofs.YtcdepkflghcjpaaDoor
set_option linter.unusedSimpArgs false
set_option linter.unusedVariables false
open Go.RowKit
set_option maxRecDepth 20000

def folE (p : Pl) (l : List Int) (t : Tb) (x w : Int) : List Int × Int :=
  if ordB p l = true ∧ validT p t = true then (if nodB p x = true ∧ nodB p w = true then fol p l t w.toNat (rfCnt p.ns.length (fun _ _ => false) + 1) (fun _ _ => false) x.toNat false [] else ([], 2)) else ([], 1)
theorem ev_Follow19 (p : Pl) (hp : PlOk p) (l : List Int) (t : Tb) (x w : Int) : Ev Tryd.prog 19 [plV p, .agg [intsV l], tabV t, .sc (.int .i64 x), .sc (.int .i64 w)] (.tup [intsV (folE p l t x w).1, .sc (.int .i64 (folE p l t x w).2)]) := by
  have h1 := ev_ordValid p hp l
  have h2 := ev_valid19 p hp t
  have h3 := fun hv ht hx hw => ev_follow p hv l t ht x w hx hw
  unfold plV intsV tabV at *
  refine ev_fn Tryd.func19 comp19 (show 5 ≤ Tryd.f19.ntmps by decide) ?_; unfold cf19 rf19; simp only [↓EVP0, EVQ0, EVQ1, EVQ2, EVQ3, EVQ4, EVA, EVK, EVF,EVFT, ↓reduceIte, Nat.reduceEqDiff, Nat.reduceAdd, Nat.reduceSub, Nat.reduceMul, Nat.reduceLT, Nat.reduceLeDiff, reduceCtorEq, Int.reduceToNat, Int.reduceLT, Int.reduceLE, Int.reduceAdd, Int.reduceSub, Int.reduceMul, Int.reduceNeg, Int.reduceEq, Nat.reduceMod, forall_eq_or_imp, forall_eq, forall_const, cond_true, cond_false, decide_true, decide_false, true_imp_iff, implies_true, Int.cast_ofNat_Int, forall_eq']
  refine callK_ro (h1) ?_ ?_
  · simp only [↓EVP0, EVQ0, EVQ1, EVQ2, EVQ3, EVQ4, EVA, EVK, EVF,EVFT, ↓reduceIte, Nat.reduceEqDiff, Nat.reduceAdd, Nat.reduceSub, Nat.reduceMul, Nat.reduceLT, Nat.reduceLeDiff, reduceCtorEq, Int.reduceToNat, Int.reduceLT, Int.reduceLE, Int.reduceAdd, Int.reduceSub, Int.reduceMul, Int.reduceNeg, Int.reduceEq, Nat.reduceMod, forall_eq_or_imp, forall_eq, forall_const, cond_true, cond_false, decide_true, decide_false, true_imp_iff, implies_true, Int.cast_ofNat_Int, forall_eq']
  simp only [↓EVP0, EVQ0, EVQ1, EVQ2, EVQ3, EVQ4, EVA, EVK, EVF,EVFT, ↓reduceIte, Nat.reduceEqDiff, Nat.reduceAdd, Nat.reduceSub, Nat.reduceMul, Nat.reduceLT, Nat.reduceLeDiff, reduceCtorEq, Int.reduceToNat, Int.reduceLT, Int.reduceLE, Int.reduceAdd, Int.reduceSub, Int.reduceMul, Int.reduceNeg, Int.reduceEq, Nat.reduceMod, forall_eq_or_imp, forall_eq, forall_const, cond_true, cond_false, decide_true, decide_false, true_imp_iff, implies_true, Int.cast_ofNat_Int, forall_eq']
  (refine lops_ge_imp ?_; simp only [↓EVP0, EVQ0, EVQ1, EVQ2, EVQ3, EVQ4, EVA, EVK, EVF,EVFT, ↓reduceIte, Nat.reduceEqDiff, Nat.reduceAdd, Nat.reduceSub, Nat.reduceMul, Nat.reduceLT, Nat.reduceLeDiff, reduceCtorEq, Int.reduceToNat, Int.reduceLT, Int.reduceLE, Int.reduceAdd, Int.reduceSub, Int.reduceMul, Int.reduceNeg, Int.reduceEq, Nat.reduceMod, forall_eq_or_imp, forall_eq, forall_const, cond_true, cond_false, decide_true, decide_false, true_imp_iff, implies_true, Int.cast_ofNat_Int, forall_eq'])
  refine gCallK_ro _ (fun _ => h2) (fun _ => ?_) ?_
  · simp only [↓EVP0, EVQ0, EVQ1, EVQ2, EVQ3, EVQ4, EVA, EVK, EVF,EVFT, ↓reduceIte, Nat.reduceEqDiff, Nat.reduceAdd, Nat.reduceSub, Nat.reduceMul, Nat.reduceLT, Nat.reduceLeDiff, reduceCtorEq, Int.reduceToNat, Int.reduceLT, Int.reduceLE, Int.reduceAdd, Int.reduceSub, Int.reduceMul, Int.reduceNeg, Int.reduceEq, Nat.reduceMod, forall_eq_or_imp, forall_eq, forall_const, cond_true, cond_false, decide_true, decide_false, true_imp_iff, implies_true, Int.cast_ofNat_Int, forall_eq']
  simp only [↓EVP0, EVQ0, EVQ1, EVQ2, EVQ3, EVQ4, EVA, EVK, EVF,EVFT, ↓reduceIte, Nat.reduceEqDiff, Nat.reduceAdd, Nat.reduceSub, Nat.reduceMul, Nat.reduceLT, Nat.reduceLeDiff, reduceCtorEq, Int.reduceToNat, Int.reduceLT, Int.reduceLE, Int.reduceAdd, Int.reduceSub, Int.reduceMul, Int.reduceNeg, Int.reduceEq, Nat.reduceMod, forall_eq_or_imp, forall_eq, forall_const, cond_true, cond_false, decide_true, decide_false, true_imp_iff, implies_true, Int.cast_ofNat_Int, forall_eq']
  refine ⟨fun g => ?_, fun g => ⟨fun g2 => ?_, fun g2 => ?_⟩⟩
  · have e : ¬ (ordB p l = true ∧ validT p t = true) := by
      rintro ⟨a, b⟩
      rw [a, b] at g
      simp at g
    unfold folE
    rw [if_neg e]
    exact ⟨rfl, rfl⟩
  · have e : ordB p l = true ∧ validT p t = true := by
      revert g
      cases ordB p l <;> cases validT p t <;> simp
    have e2 : ¬ (nodB p x = true ∧ nodB p w = true) := by
      rintro ⟨a, b⟩
      have a1 := nodB_in a
      have b1 := nodB_in b
      unfold inN at a1 b1
      rw [decide_eq_false (show ¬ x < 0 by omega), decide_eq_false (show ¬ (p.ns.length : Int) ≤ x by omega), decide_eq_false (show ¬ w < 0 by omega), decide_eq_false (show ¬ (p.ns.length : Int) ≤ w by omega)] at g2
      simp at g2
    unfold folE
    rw [if_pos e, if_neg e2]
    exact ⟨rfl, rfl⟩
  · have e : ordB p l = true ∧ validT p t = true := by
      revert g
      cases ordB p l <;> cases validT p t <;> simp
    have b : (0 ≤ x ∧ x < p.ns.length) ∧ (0 ≤ w ∧ w < p.ns.length) := by
      have c1 : ¬ x < 0 := fun c => by rw [decide_eq_true c] at g2; simp at g2
      have c2 : ¬ (p.ns.length : Int) ≤ x := fun c => by rw [decide_eq_true c] at g2; simp at g2
      have c3 : ¬ w < 0 := fun c => by rw [decide_eq_true c] at g2; simp at g2
      have c4 : ¬ (p.ns.length : Int) ≤ w := fun c => by rw [decide_eq_true c] at g2; simp at g2
      omega
    have e2 : nodB p x = true ∧ nodB p w = true := by unfold nodB; simp [b.1.1, b.1.2, b.2.1, b.2.2]
    have h4 := h3 (ord_of e.1).v e.2 (nodB_in e2.1) (nodB_in e2.2)
    have ee : folE p l t x w = fol p l t w.toNat (rfCnt p.ns.length (fun _ _ => false) + 1) (fun _ _ => false) x.toNat false [] := by
      unfold folE
      rw [if_pos e, if_pos e2]
    rw [ee]
    refine callK_ro (h4) ?_ ?_
    · simp only [↓EVP0, EVQ0, EVQ1, EVQ2, EVQ3, EVQ4, EVA, EVK, EVF,EVFT, ↓reduceIte, Nat.reduceEqDiff, Nat.reduceAdd, Nat.reduceSub, Nat.reduceMul, Nat.reduceLT, Nat.reduceLeDiff, reduceCtorEq, Int.reduceToNat, Int.reduceLT, Int.reduceLE, Int.reduceAdd, Int.reduceSub, Int.reduceMul, Int.reduceNeg, Int.reduceEq, Nat.reduceMod, forall_eq_or_imp, forall_eq, forall_const, cond_true, cond_false, decide_true, decide_false, true_imp_iff, implies_true, Int.cast_ofNat_Int, forall_eq']
    simp only [↓EVP0, EVQ0, EVQ1, EVQ2, EVQ3, EVQ4, EVA, EVK, EVF,EVFT, ↓reduceIte, Nat.reduceEqDiff, Nat.reduceAdd, Nat.reduceSub, Nat.reduceMul, Nat.reduceLT, Nat.reduceLeDiff, reduceCtorEq, Int.reduceToNat, Int.reduceLT, Int.reduceLE, Int.reduceAdd, Int.reduceSub, Int.reduceMul, Int.reduceNeg, Int.reduceEq, Nat.reduceMod, forall_eq_or_imp, forall_eq, forall_const, cond_true, cond_false, decide_true, decide_false, true_imp_iff, implies_true, Int.cast_ofNat_Int, forall_eq']
theorem fol_make {p : Pl} (hv : validE p = 0) {l : List Int} (hll : l.length = p.ns.length) {up : List Bool} {w : Nat} (hw : w < p.ns.length) : ∀ (k : Nat) (r : Rf) (x : Nat) (b : Bool) (path : List Int), x < p.ns.length →
    (∀ i c, r i c = true → dS p.ns.length l p.cs up (w : Int) ((x : Int), b) < dS p.ns.length l p.cs up (w : Int) ((i : Int), c)) → (dS p.ns.length l p.cs up (w : Int) ((x : Int), b)).toNat < k →
    fol p l (makeT p l up) w k r x b path = if x = w then (path, 0) else if dS p.ns.length l p.cs up (w : Int) ((x : Int), b) < 1 then ([], 12) else (path ++ chs l p.cs up (dS p.ns.length l p.cs up (w : Int)) (dS p.ns.length l p.cs up (w : Int) ((x : Int), b)).toNat ((x : Int), b), 0)
  | 0, _, _, _, _, _, _, h => by omega
  | k + 1, r, x, b, path, hx, hr, hk => by
    have hn : p.ns.length ≤ 100 := by have := (valid_of hv).n16; omega
    have htx : inN p.ns.length (w : Int) := by unfold inN; omega
    have hD := d_facts (l := l) (cs := p.cs) (up := up) hn (valid_of hv).cab htx
    have hno : r x b = false := by
      cases e : r x b
      · rfl
      · have := hr x b e; omega
    have hte : tabE (makeT p l up) x b w = entE p l up x b w := by
      unfold tabE
      rw [makeT_get p l up hx]
      cases b
      · exact rowE_get p l up x false hw
      · exact rowE_get p l up x true hw
    unfold fol
    rw [hte, if_neg (by rw [hno]; simp)]
    by_cases e : x = w
    · have e2 : entE p l up x b w = -2 := by unfold entE; rw [if_pos e]
      rw [e2, if_pos rfl, if_pos e]
    rw [if_neg e]
    by_cases h1 : dS p.ns.length l p.cs up (w : Int) ((x : Int), b) < 1
    · have e2 : entE p l up x b w = -1 := by unfold entE chE; rw [if_neg e, if_pos h1]
      rw [e2, if_neg (by decide), if_pos rfl, if_pos h1]
    · obtain ⟨i, t, g1, g2, g3, g4, _⟩ := fst_some hv hll htx hD (s := ((x : Int), b)) rfl (by omega)
      have e2 : entE p l up x b w = (i : Int) := by unfold entE chE; rw [if_neg e, if_neg h1, g1]; rfl
      obtain ⟨a1, a2, a3, a4, a5, a6, _⟩ := edg_acr hv g2 g3
      have hin := edg_in (valid_of hv).cab g2 g3
      have hz := hin.2
      unfold inN at hz
      obtain ⟨_, _, e3, e4⟩ := g3
      rw [e2, if_neg (by omega), if_neg (by omega), if_neg h1, Int.toNat_natCast, a1]
      have htt : ((t.1.toNat : Nat) : Int) = t.1 := by omega
      have hb : (b || !aboveB l t.1 (x : Int)) = t.2 := by
        rw [e3]
        simp only at e4 ⊢
        cases b
        · rfl
        · simp at e4 ⊢; exact e4
      have hst : (((t.1.toNat : Nat) : Int), t.2) = t := by rw [htt]
      show fol p l (makeT p l up) w k (rfSet r x b) t.1.toNat (b || !aboveB l t.1 (x : Int)) (path ++ [(i : Int)]) = _
      rw [hb, fol_make hv hll hw k (rfSet r x b) t.1.toNat t.2 (path ++ [(i : Int)]) (by omega) (fun j c hj => ?_) (by rw [hst]; omega), hst, g4]
      · have hch : chs l p.cs up (dS p.ns.length l p.cs up (w : Int)) (dS p.ns.length l p.cs up (w : Int) ((x : Int), b)).toNat ((x : Int), b) = (i : Int) :: chs l p.cs up (dS p.ns.length l p.cs up (w : Int)) (dS p.ns.length l p.cs up (w : Int) ((x : Int), b) - 1).toNat t := by
          obtain ⟨m, hm⟩ : ∃ m : Nat, dS p.ns.length l p.cs up (w : Int) ((x : Int), b) = ((m + 1 : Nat) : Int) := ⟨(dS p.ns.length l p.cs up (w : Int) ((x : Int), b)).toNat - 1, by omega⟩
          rw [hm] at g1 ⊢
          rw [show (((m + 1 : Nat) : Int)).toNat = m + 1 by omega, show (((m + 1 : Nat) : Int) - 1).toNat = m by omega]
          show (match fstS l p.cs up (dS p.ns.length l p.cs up (w : Int)) ((x : Int), b) ((m + 1 : Nat) : Int) with
            | some q => (q.1 : Int) :: chs l p.cs up (dS p.ns.length l p.cs up (w : Int)) m q.2
            | none => []) = _
          rw [g1]
        rw [hch]
        by_cases hd1 : dS p.ns.length l p.cs up (w : Int) ((x : Int), b) - 1 = 0
        · have hz0 := (hD.zero t).1 (by omega)
          rw [if_pos (by have := hz0.1; omega), hd1]
          rfl
        · rw [if_neg (fun h => hd1 ?_), if_neg (by omega), List.append_assoc]
          · rfl
          · have : t.1 = (w : Int) := by omega
            have hlv : 0 ≤ lvl l (w : Int) := by rw [← this]; exact a5
            have := (hD.zero t).2 ⟨this, hlv⟩
            omega
      · unfold rfSet at hj
        rw [hst]
        by_cases hjx : j = x ∧ c = b
        · rw [hjx.1, hjx.2]; omega
        · rw [if_neg hjx] at hj
          have := hr j c hj; omega
end Go.Proofs.YtcdepkflghcjpaaDoor
namespace Go.Proofs.YtcdepkflghcjpaaDoor
set_option linter.unusedSimpArgs false
set_option linter.unusedVariables false
open Go.RowKit
set_option maxRecDepth 20000

theorem rfCnt_no : ∀ n : Nat, rfCnt n (fun _ _ => false) = 2 * n := by
  intro n
  unfold rfCnt
  induction n with
  | zero => rfl
  | succ n ih => rw [List.range_succ, List.map_append, List.sum_append, ih]; simp; omega
theorem folE_make {p : Pl} {l : List Int} {up : List Bool} (hf : fitB19 p l up = true) {a w : Nat} (ha : a < p.ns.length) (hw : w < p.ns.length) :
    folE p l (makeT p l up) a w = if a = w then ([], 0) else if dS p.ns.length l p.cs up (w : Int) ((a : Int), false) < 1 then ([], 12) else (chs l p.cs up (dS p.ns.length l p.cs up (w : Int)) (dS p.ns.length l p.cs up (w : Int) ((a : Int), false)).toNat ((a : Int), false), 0) := by
  obtain ⟨hv, ho, hup⟩ := fit_of hf
  have hO := ord_of ho
  have hll := hO.len
  have hn : p.ns.length ≤ 100 := by have := (valid_of hv).n16; omega
  have htx : inN p.ns.length (w : Int) := by unfold inN; omega
  have hD := d_facts (l := l) (cs := p.cs) (up := up) hn (valid_of hv).cab htx
  unfold folE
  rw [if_pos ⟨ho, make_valid hv hll⟩, if_pos (by unfold nodB; simp; omega)]
  rw [Int.toNat_natCast, Int.toNat_natCast, fol_make hv hll hw _ _ a false [] ha (fun i c h => by simp at h) (by rw [rfCnt_no]; have := hD.low ((a : Int), false); omega)]
  rfl
end Go.Proofs.YtcdepkflghcjpaaDoor
namespace Go.Proofs.YtcdepkflghcjpaaDoor
set_option linter.unusedSimpArgs false
set_option linter.unusedVariables false
open Go.RowKit
set_option maxRecDepth 20000

theorem nodB_nat {p : Pl} {a : Nat} (h : a < p.ns.length) : nodB p (a : Int) = true := by unfold nodB; simp; omega
theorem chosen_law {p : Pl} {l : List Int} {up : List Bool} (hf : fitB19 p l up = true) {a w : Nat} (ha : a < p.ns.length) (hw : w < p.ns.length) (hne : a ≠ w) :
    (folE p l (makeT p l up) a w = ([], 12) ∧ pathE p l up a w = ([], 12)) ∨
    ∃ path, folE p l (makeT p l up) a w = (path, 0) ∧ pathE p l up a w = (path, 0) ∧ path.length ≤ 1000 ∧ legalE p l a path = true ∧ dS p.ns.length l p.cs up (w : Int) ((a : Int), false) = path.length := by
  obtain ⟨hv, ho, hup⟩ := fit_of hf
  have hO := ord_of ho
  have hll := hO.len
  have h16 := (valid_of hv).n16
  have hn : p.ns.length ≤ 100 := by omega
  have htx : inN p.ns.length (w : Int) := by unfold inN; omega
  have hD := d_facts (l := l) (cs := p.cs) (up := up) hn (valid_of hv).cab htx
  have ep : pathE p l up a w = if dS p.ns.length l p.cs up w (a, false) = -1 then ([], 12) else (chs l p.cs up (dS p.ns.length l p.cs up w) (dS p.ns.length l p.cs up w (a, false)).toNat (a, false), 0) := by
    unfold pathE; rw [if_pos ⟨ho, hup⟩, if_pos ⟨nodB_nat ha, nodB_nat hw⟩]
  have h0 := folE_make hf ha hw
  rw [if_neg hne] at h0
  have hlo := hD.low ((a : Int), false)
  have hz : dS p.ns.length l p.cs up (w : Int) ((a : Int), false) ≠ 0 := fun h => by have := ((hD.zero _).1 h).1; simp at this; omega
  by_cases h1 : dS p.ns.length l p.cs up (w : Int) ((a : Int), false) = -1
  · left
    rw [if_pos h1] at ep
    rw [if_pos (by omega)] at h0
    exact ⟨h0, ep⟩
  · right
    rw [if_neg h1] at ep
    rw [if_neg (by omega)] at h0
    obtain ⟨ns, hc⟩ := chs_ok hv hll htx hD (dS p.ns.length l p.cs up (w : Int) ((a : Int), false)).toNat ((a : Int), false) none (by omega) (fun _ _ _ _ _ _ => by simp)
    have hnd := nodes_cho (s := ((a : Int), false)) hv (nodB_nat ha) hc
    refine ⟨_, h0, ep, by rw [hc.len.2]; omega, ?_, by rw [hc.len.2]; omega⟩
    have hl1 := hc.lvs
    have hl2 := hc.leg
    have hl3 := hD.lvl ((a : Int), false) (by omega)
    simp only at hl3 hl2
    generalize chs l p.cs up (dS p.ns.length l p.cs up w) (dS p.ns.length l p.cs up w (a, false)).toNat (a, false) = path at *
    unfold legalE
    simp only at hnd
    rw [ho, hnd]
    show (true && (decide ((0 : Int) = 0) && (lvs l ((a : Int) :: ns) && _))) = true
    rw [hl2]
    unfold lvs at hl1 ⊢
    rw [List.all_cons, hl1, decide_eq_true hl3]; rfl
end Go.Proofs.YtcdepkflghcjpaaDoor
namespace Go.Proofs.YtcdepkflghcjpaaDoor
set_option linter.unusedSimpArgs false
set_option linter.unusedVariables false
open Go.RowKit
set_option maxRecDepth 20000

def folA (p : Pl) (l : List Int) (t : Tb) (a w : Nat) : List Int × Int := fol p l t w (rfCnt p.ns.length (fun _ _ => false) + 1) (fun _ _ => false) a false []
theorem fol_len {p : Pl} {l : List Int} {t : Tb} {w : Nat} : ∀ (k : Nat) (r : Rf) (x : Nat) (b : Bool) (path : List Int), (fol p l t w k r x b path).1.length ≤ path.length + k
  | 0, _, _, _, _ => Nat.zero_le _
  | k + 1, r, x, b, path => by
    unfold fol
    split
    · exact Nat.zero_le _
    split
    · show path.length ≤ _
      omega
    split
    · exact Nat.zero_le _
    · have := fol_len (p := p) (l := l) (t := t) (w := w) k (rfSet r x b) (acrE (p.cs.getD (tabE t x b w).toNat default) x).1.toNat (b || !aboveB l (acrE (p.cs.getD (tabE t x b w).toNat default) x).1 x) (path ++ [tabE t x b w])
      simp only [List.length_append, List.length_singleton] at this
      omega
theorem rfCnt_none : ∀ n : Nat, rfCnt n (fun _ _ => false) = 2 * n := by
  intro n
  unfold rfCnt
  induction n with
  | zero => rfl
  | succ n ih => rw [List.range_succ, List.map_append, List.sum_append, ih]; simp; omega
def rchB (p : Pl) (l : List Int) (t : Tb) (a w : Nat) : Bool := (decide (l.getD a 0 < 0) || decide (l.getD w 0 < 0)) || (decide ((folA p l t a w).2 = 0) && legalE p l (a : Int) (folA p l t a w).1)
def reachB (p : Pl) (l : List Int) (t : Tb) : Bool := ordB p l && (validT p t && (List.range p.ns.length).all fun a => (List.range p.ns.length).all fun w => rchB p l t a w)
theorem ev_Reaches (p : Pl) (hp : PlOk p) (l : List Int) (t : Tb) : Ev Tryd.prog 24 [plV p, .agg [intsV l], tabV t] (.sc (.bool (reachB p l t))) := by
  have h1 := ev_ordValid p hp l
  have h2 := ev_valid19 p hp t
  have h3 := fun hv ht x w hx hw => ev_follow p hv l t ht x w hx hw
  have h4 := fun f q hq => ev_legal p hp l f q hq
  unfold plV intsV tabV at *
  refine ev_fn Tryd.func24 comp24 (show 3 ≤ Tryd.f24.ntmps by decide) ?_; unfold cf24 rf24; simp only [↓EVP0, EVQ0, EVQ1, EVQ2, EVQ3, EVQ4, EVA, EVK, EVF,EVFT, ↓reduceIte, Nat.reduceEqDiff, Nat.reduceAdd, Nat.reduceSub, Nat.reduceMul, Nat.reduceLT, Nat.reduceLeDiff, reduceCtorEq, Int.reduceToNat, Int.reduceLT, Int.reduceLE, Int.reduceAdd, Int.reduceSub, Int.reduceMul, Int.reduceNeg, Int.reduceEq, Nat.reduceMod, forall_eq_or_imp, forall_eq, forall_const, cond_true, cond_false, decide_true, decide_false, true_imp_iff, implies_true, Int.cast_ofNat_Int, forall_eq']
  refine callK_ro (h1) ?_ ?_
  · simp only [↓EVP0, EVQ0, EVQ1, EVQ2, EVQ3, EVQ4, EVA, EVK, EVF,EVFT, ↓reduceIte, Nat.reduceEqDiff, Nat.reduceAdd, Nat.reduceSub, Nat.reduceMul, Nat.reduceLT, Nat.reduceLeDiff, reduceCtorEq, Int.reduceToNat, Int.reduceLT, Int.reduceLE, Int.reduceAdd, Int.reduceSub, Int.reduceMul, Int.reduceNeg, Int.reduceEq, Nat.reduceMod, forall_eq_or_imp, forall_eq, forall_const, cond_true, cond_false, decide_true, decide_false, true_imp_iff, implies_true, Int.cast_ofNat_Int, forall_eq']
  simp only [↓EVP0, EVQ0, EVQ1, EVQ2, EVQ3, EVQ4, EVA, EVK, EVF,EVFT, ↓reduceIte, Nat.reduceEqDiff, Nat.reduceAdd, Nat.reduceSub, Nat.reduceMul, Nat.reduceLT, Nat.reduceLeDiff, reduceCtorEq, Int.reduceToNat, Int.reduceLT, Int.reduceLE, Int.reduceAdd, Int.reduceSub, Int.reduceMul, Int.reduceNeg, Int.reduceEq, Nat.reduceMod, forall_eq_or_imp, forall_eq, forall_const, cond_true, cond_false, decide_true, decide_false, true_imp_iff, implies_true, Int.cast_ofNat_Int, forall_eq']
  (refine lops_ge_imp ?_; simp only [↓EVP0, EVQ0, EVQ1, EVQ2, EVQ3, EVQ4, EVA, EVK, EVF,EVFT, ↓reduceIte, Nat.reduceEqDiff, Nat.reduceAdd, Nat.reduceSub, Nat.reduceMul, Nat.reduceLT, Nat.reduceLeDiff, reduceCtorEq, Int.reduceToNat, Int.reduceLT, Int.reduceLE, Int.reduceAdd, Int.reduceSub, Int.reduceMul, Int.reduceNeg, Int.reduceEq, Nat.reduceMod, forall_eq_or_imp, forall_eq, forall_const, cond_true, cond_false, decide_true, decide_false, true_imp_iff, implies_true, Int.cast_ofNat_Int, forall_eq'])
  refine gCallK_ro _ (fun _ => h2) (fun _ => ?_) ?_
  · simp only [↓EVP0, EVQ0, EVQ1, EVQ2, EVQ3, EVQ4, EVA, EVK, EVF,EVFT, ↓reduceIte, Nat.reduceEqDiff, Nat.reduceAdd, Nat.reduceSub, Nat.reduceMul, Nat.reduceLT, Nat.reduceLeDiff, reduceCtorEq, Int.reduceToNat, Int.reduceLT, Int.reduceLE, Int.reduceAdd, Int.reduceSub, Int.reduceMul, Int.reduceNeg, Int.reduceEq, Nat.reduceMod, forall_eq_or_imp, forall_eq, forall_const, cond_true, cond_false, decide_true, decide_false, true_imp_iff, implies_true, Int.cast_ofNat_Int, forall_eq']
  simp only [↓EVP0, EVQ0, EVQ1, EVQ2, EVQ3, EVQ4, EVA, EVK, EVF,EVFT, ↓reduceIte, Nat.reduceEqDiff, Nat.reduceAdd, Nat.reduceSub, Nat.reduceMul, Nat.reduceLT, Nat.reduceLeDiff, reduceCtorEq, Int.reduceToNat, Int.reduceLT, Int.reduceLE, Int.reduceAdd, Int.reduceSub, Int.reduceMul, Int.reduceNeg, Int.reduceEq, Nat.reduceMod, forall_eq_or_imp, forall_eq, forall_const, cond_true, cond_false, decide_true, decide_false, true_imp_iff, implies_true, Int.cast_ofNat_Int, forall_eq']
  refine ⟨fun hg => ?_, fun hg _ => ?_⟩
  · unfold reachB
    cases e1 : ordB p l
    · rfl
    · cases e2 : validT p t
      · rfl
      · rw [e1, e2] at hg; simp at hg
  have e : ordB p l = true ∧ validT p t = true := by
    revert hg
    cases ordB p l <;> cases validT p t <;> simp
  have hO := ord_of e.1
  have hv := hO.v
  have hll := hO.len
  have h16 := (valid_of hv).n16
  have hB : reachB p l t = (List.range p.ns.length).all fun a => (List.range p.ns.length).all fun w => rchB p l t a w := by unfold reachB; rw [e.1, e.2]; rfl
  refine lwp_for (α := Unit) p.ns.length (fun a _ => ∀ j, j < a → ((List.range p.ns.length).all fun w => rchB p l t j w) = true) (fun a _ => [(3, .ptr 0 0 0 0 0), (4, .ptr 1 0 0 0 0), (5, .ptr 2 0 0 0 0), (23, .sc (.int .i64 p.ns.length)), (24, .sc (.int .i64 a))])
    (fun _ _ => [(0, .box [.rsl 3 p.ns.length (ndsF p.ns), .rsl 6 p.cs.length (cbsF p.cs)]), (0, .box [.rsl 1 l.length (intsF l)]), (0, .box [.rsl 2 t.length (tabF t)])]) () (fun j hj => absurd hj (Nat.not_lt_zero _)) ?_ (fun _ _ => Nat.zero_le _) ?_
  · simp only [↓EVP0, EVQ0, EVQ1, EVQ2, EVQ3, EVQ4, EVA, EVK, EVF,EVFT, ↓reduceIte, Nat.reduceEqDiff, Nat.reduceAdd, Nat.reduceSub, Nat.reduceMul, Nat.reduceLT, Nat.reduceLeDiff, reduceCtorEq, Int.reduceToNat, Int.reduceLT, Int.reduceLE, Int.reduceAdd, Int.reduceSub, Int.reduceMul, Int.reduceNeg, Int.reduceEq, Nat.reduceMod, forall_eq_or_imp, forall_eq, forall_const, cond_true, cond_false, decide_true, decide_false, true_imp_iff, implies_true, Int.cast_ofNat_Int, forall_eq']
  intro a _ ha hx
  unfold lb24_1
  simp only [↓EVP0, EVQ0, EVQ1, EVQ2, EVQ3, EVQ4, EVA, EVK, EVF,EVFT, ↓reduceIte, Nat.reduceEqDiff, Nat.reduceAdd, Nat.reduceSub, Nat.reduceMul, Nat.reduceLT, Nat.reduceLeDiff, reduceCtorEq, Int.reduceToNat, Int.reduceLT, Int.reduceLE, Int.reduceAdd, Int.reduceSub, Int.reduceMul, Int.reduceNeg, Int.reduceEq, Nat.reduceMod, forall_eq_or_imp, forall_eq, forall_const, cond_true, cond_false, decide_true, decide_false, true_imp_iff, implies_true, Int.cast_ofNat_Int, forall_eq']
  refine ⟨fun hg2 => ?_, fun hg2 => ?_⟩
  rotate_left
  · have ha2 : a = p.ns.length := by have := of_decide_eq_false hg2; omega
    rw [hB, rng_yes19 (fun i hi => hx i (by omega))]
  have ha2 : a < p.ns.length := by have := of_decide_eq_true hg2; omega
  intro _
  refine lwp_for (α := Unit) p.ns.length (fun w _ => ∀ j, j < w → rchB p l t a j = true) (fun w _ => [(3, .ptr 0 0 0 0 0), (4, .ptr 1 0 0 0 0), (5, .ptr 2 0 0 0 0), (7, .sc (.int .i64 a)), (23, .sc (.int .i64 p.ns.length)), (24, .sc (.int .i64 a)), (29, .sc (.int .i64 p.ns.length)), (30, .sc (.int .i64 w))])
    (fun _ _ => [(0, .box [.rsl 3 p.ns.length (ndsF p.ns), .rsl 6 p.cs.length (cbsF p.cs)]), (0, .box [.rsl 1 l.length (intsF l)]), (0, .box [.rsl 2 t.length (tabF t)])]) () (fun j hj => absurd hj (Nat.not_lt_zero _)) ?_ (fun _ _ => Nat.zero_le _) ?_
  · simp only [↓EVP0, EVQ0, EVQ1, EVQ2, EVQ3, EVQ4, EVA, EVK, EVF,EVFT, ↓reduceIte, Nat.reduceEqDiff, Nat.reduceAdd, Nat.reduceSub, Nat.reduceMul, Nat.reduceLT, Nat.reduceLeDiff, reduceCtorEq, Int.reduceToNat, Int.reduceLT, Int.reduceLE, Int.reduceAdd, Int.reduceSub, Int.reduceMul, Int.reduceNeg, Int.reduceEq, Nat.reduceMod, forall_eq_or_imp, forall_eq, forall_const, cond_true, cond_false, decide_true, decide_false, true_imp_iff, implies_true, Int.cast_ofNat_Int, forall_eq']
  intro w _ hw hz
  unfold lb24_0
  simp only [↓EVP0, EVQ0, EVQ1, EVQ2, EVQ3, EVQ4, EVA, EVK, EVF,EVFT, ↓reduceIte, Nat.reduceEqDiff, Nat.reduceAdd, Nat.reduceSub, Nat.reduceMul, Nat.reduceLT, Nat.reduceLeDiff, reduceCtorEq, Int.reduceToNat, Int.reduceLT, Int.reduceLE, Int.reduceAdd, Int.reduceSub, Int.reduceMul, Int.reduceNeg, Int.reduceEq, Nat.reduceMod, forall_eq_or_imp, forall_eq, forall_const, cond_true, cond_false, decide_true, decide_false, true_imp_iff, implies_true, Int.cast_ofNat_Int, forall_eq']
  refine ⟨fun hg3 => ?_, fun hg3 => ?_⟩
  rotate_left
  · have hw2 : w = p.ns.length := by have := of_decide_eq_false hg3; omega
    subst hw2
    refine ⟨by unfold In64; omega, ha2, (), fun j hj => ?_⟩
    by_cases ej : j = a
    · rw [ej]; exact rng_yes19 hz
    · exact hx j (by omega)
  have hw2 : w < p.ns.length := by have := of_decide_eq_true hg3; omega
  have hnxt : rchB p l t a w = true → ∀ j, j < w + 1 → rchB p l t a j = true := fun h j hj => by
    by_cases ej : j = w
    · rw [ej]; exact h
    · exact hz j (by omega)
  have hend : rchB p l t a w = false → false = reachB p l t := fun h => by rw [hB, rng_no19 ha2 (rng_no19 hw2 h)]
  refine ⟨⟨by omega, by omega⟩, fun _ => ⟨by omega, by omega⟩, fun hg4 => ⟨by unfold In64; omega, hw2, (), hnxt ?_⟩, fun hg4 => ?_⟩
  · unfold rchB
    revert hg4
    cases decide (l.getD a 0 < 0) <;> cases decide (l.getD w 0 < 0) <;> simp
  have hl2 : (decide (l.getD a 0 < 0) || decide (l.getD w 0 < 0)) = false := by
    revert hg4
    cases decide (l.getD a 0 < 0) <;> cases decide (l.getD w 0 < 0) <;> simp
  have hlen : (folA p l t a w).1.length ≤ 1000 := by
    unfold folA
    have := fol_len (p := p) (l := l) (t := t) (w := w) (rfCnt p.ns.length (fun _ _ => false) + 1) (fun _ _ => false) a false []
    rw [rfCnt_none] at this ⊢
    simp only [List.length_nil] at this
    omega
  have h31 := h3 hv e.2 a w (by unfold inN; omega) (by unfold inN; omega)
  rw [Int.toNat_natCast, Int.toNat_natCast] at h31
  change Ev _ _ _ (LV.tup [LV.rsl 1 (folA p l t a w).1.length (intsF (folA p l t a w).1), .sc (.int .i64 (folA p l t a w).2)]) at h31
  have h41 := h4 a (folA p l t a w).1 hlen
  have hrc : rchB p l t a w = (decide ((folA p l t a w).2 = 0) && legalE p l (a : Int) (folA p l t a w).1) := by unfold rchB; rw [hl2]; rfl
  refine callK_ro (h31) ?_ ?_
  · simp only [↓EVP0, EVQ0, EVQ1, EVQ2, EVQ3, EVQ4, EVA, EVK, EVF,EVFT, ↓reduceIte, Nat.reduceEqDiff, Nat.reduceAdd, Nat.reduceSub, Nat.reduceMul, Nat.reduceLT, Nat.reduceLeDiff, reduceCtorEq, Int.reduceToNat, Int.reduceLT, Int.reduceLE, Int.reduceAdd, Int.reduceSub, Int.reduceMul, Int.reduceNeg, Int.reduceEq, Nat.reduceMod, forall_eq_or_imp, forall_eq, forall_const, cond_true, cond_false, decide_true, decide_false, true_imp_iff, implies_true, Int.cast_ofNat_Int, forall_eq']
  simp only [↓EVP0, EVQ0, EVQ1, EVQ2, EVQ3, EVQ4, EVA, EVK, EVF,EVFT, ↓reduceIte, Nat.reduceEqDiff, Nat.reduceAdd, Nat.reduceSub, Nat.reduceMul, Nat.reduceLT, Nat.reduceLeDiff, reduceCtorEq, Int.reduceToNat, Int.reduceLT, Int.reduceLE, Int.reduceAdd, Int.reduceSub, Int.reduceMul, Int.reduceNeg, Int.reduceEq, Nat.reduceMod, forall_eq_or_imp, forall_eq, forall_const, cond_true, cond_false, decide_true, decide_false, true_imp_iff, implies_true, Int.cast_ofNat_Int, forall_eq']
  (refine lops_ge_imp ?_; simp only [↓EVP0, EVQ0, EVQ1, EVQ2, EVQ3, EVQ4, EVA, EVK, EVF,EVFT, ↓reduceIte, Nat.reduceEqDiff, Nat.reduceAdd, Nat.reduceSub, Nat.reduceMul, Nat.reduceLT, Nat.reduceLeDiff, reduceCtorEq, Int.reduceToNat, Int.reduceLT, Int.reduceLE, Int.reduceAdd, Int.reduceSub, Int.reduceMul, Int.reduceNeg, Int.reduceEq, Nat.reduceMod, forall_eq_or_imp, forall_eq, forall_const, cond_true, cond_false, decide_true, decide_false, true_imp_iff, implies_true, Int.cast_ofNat_Int, forall_eq'])
  refine gCallK_ro _ (fun _ => h41) (fun _ => ?_) ?_
  · simp only [↓EVP0, EVQ0, EVQ1, EVQ2, EVQ3, EVQ4, EVA, EVK, EVF,EVFT, ↓reduceIte, Nat.reduceEqDiff, Nat.reduceAdd, Nat.reduceSub, Nat.reduceMul, Nat.reduceLT, Nat.reduceLeDiff, reduceCtorEq, Int.reduceToNat, Int.reduceLT, Int.reduceLE, Int.reduceAdd, Int.reduceSub, Int.reduceMul, Int.reduceNeg, Int.reduceEq, Nat.reduceMod, forall_eq_or_imp, forall_eq, forall_const, cond_true, cond_false, decide_true, decide_false, true_imp_iff, implies_true, Int.cast_ofNat_Int, forall_eq']
  simp only [↓EVP0, EVQ0, EVQ1, EVQ2, EVQ3, EVQ4, EVA, EVK, EVF,EVFT, ↓reduceIte, Nat.reduceEqDiff, Nat.reduceAdd, Nat.reduceSub, Nat.reduceMul, Nat.reduceLT, Nat.reduceLeDiff, reduceCtorEq, Int.reduceToNat, Int.reduceLT, Int.reduceLE, Int.reduceAdd, Int.reduceSub, Int.reduceMul, Int.reduceNeg, Int.reduceEq, Nat.reduceMod, forall_eq_or_imp, forall_eq, forall_const, cond_true, cond_false, decide_true, decide_false, true_imp_iff, implies_true, Int.cast_ofNat_Int, forall_eq']
  rw [hrc] at hnxt hend
  revert hnxt hend
  cases decide ((folA p l t a w).2 = 0) <;> cases legalE p l (a : Int) (folA p l t a w).1 <;> intro hnxt hend
  · exact ⟨fun _ => hend rfl, fun h => by simp at h⟩
  · exact ⟨fun _ => hend rfl, fun h => by simp at h⟩
  · exact ⟨fun _ => hend rfl, fun h => by simp at h⟩
  · exact ⟨fun h => by simp at h, fun _ => ⟨by unfold In64; omega, hw2, (), hnxt rfl⟩⟩
end Go.Proofs.YtcdepkflghcjpaaDoor
namespace Go.Proofs.YtcdepkflghcjpaaDoor
set_option linter.unusedSimpArgs false
set_option linter.unusedVariables false
open Go.RowKit
set_option maxRecDepth 20000

theorem reach_pair {p : Pl} {up : List Bool} {r : Int} (hv : validE p = 0) (hup : up.length = p.cs.length) (hr : inN p.ns.length r) (l : List Int) (hl : l = distL p.ns.length (upU p.cs up) r) {a w : Nat} (ha : a < p.ns.length) (hw : w < p.ns.length) :
    ((lvl l a < 0 ∨ lvl l w < 0) → a ≠ w → (folE p l (makeT p l up) a w).2 = 12) ∧
    (0 ≤ lvl l a → 0 ≤ lvl l w → (folE p l (makeT p l up) a w).2 = 0 ∧ ((folE p l (makeT p l up) a w).1.length : Int) ≤ lvl l a + lvl l w ∧ legalE p l a (folE p l (makeT p l up) a w).1 = true ∧ ∀ c, c ∈ (folE p l (makeT p l up) a w).1 → cabB p c = true ∧ up.getD c.toNat false = true) := by
  have ho : ordB p l = true := by rw [hl]; exact ord_dist hv hr
  have hf : fitB19 p l up = true := by
    unfold fitB19
    rw [fits_ord hv, ho, decide_eq_true hv, decide_eq_true hup]; rfl
  have hO := ord_of ho
  have hll := hO.len
  have h16 := (valid_of hv).n16
  have hn : p.ns.length ≤ 100 := by omega
  have htx : inN p.ns.length (w : Int) := by unfold inN; omega
  have hax : inN p.ns.length (a : Int) := by unfold inN; omega
  have hD := d_facts (l := l) (cs := p.cs) (up := up) hn (valid_of hv).cab htx
  have hok := reach_ok hv hr htx l hl hD hax
  have h0 := folE_make hf ha hw
  have hlo := hD.low ((a : Int), false)
  constructor
  · intro h hne
    rw [if_neg hne, if_pos (by have := hok.1 h; omega)] at h0
    rw [h0]
  · intro h1 h2
    obtain ⟨o1, o2, o3⟩ := hok.2 h1 h2
    have hnb := nodB_nat ha
    by_cases e : a = w
    · rw [if_pos e] at h0
      rw [h0]
      refine ⟨rfl, by simp; omega, ?_, fun c hc => by simp at hc⟩
      have hnd : nodesE p (a : Int) [] = ([(a : Int)], 0) := by
        unfold nodesE
        rw [if_pos hv, if_pos hnb]; rfl
      unfold legalE
      rw [ho]
      simp only
      rw [hnd]
      unfold lvs lgl
      simp [h1]
    · have hz : dS p.ns.length l p.cs up (w : Int) ((a : Int), false) ≠ 0 := fun h => by have := ((hD.zero _).1 h).1; simp at this; omega
      rw [if_neg e, if_neg (by omega)] at h0
      have hcl := chosen_law hf ha hw e
      rcases hcl with ⟨q1, _⟩ | ⟨path, q1, _, q3, q4, q5⟩
      · rw [q1] at h0; simp at h0
      rw [q1]
      refine ⟨rfl, by simp only; omega, q4, ?_⟩
      obtain ⟨ns, hc⟩ := chs_ok hv hll htx hD (dS p.ns.length l p.cs up (w : Int) ((a : Int), false)).toNat ((a : Int), false) none (by omega) (fun _ _ _ _ _ _ => by simp)
      rw [q1] at h0
      have hp : path = chs l p.cs up (dS p.ns.length l p.cs up (w : Int)) (dS p.ns.length l p.cs up (w : Int) ((a : Int), false)).toNat ((a : Int), false) := congrArg Prod.fst h0
      rw [← hp] at hc
      intro c hcm
      exact ⟨List.all_eq_true.1 hc.cab _ hcm, hc.up _ hcm⟩
theorem reach_all {p : Pl} {up : List Bool} {r : Int} (hv : validE p = 0) (hup : up.length = p.cs.length) (hr : inN p.ns.length r) (l : List Int) (hl : l = distL p.ns.length (upU p.cs up) r) : reachB p l (makeT p l up) = true := by
  have ho : ordB p l = true := by rw [hl]; exact ord_dist hv hr
  have hll := (ord_of ho).len
  have hvt := make_valid (up := up) hv hll
  unfold reachB
  rw [ho, hvt]
  refine rng_yes19 fun a ha => rng_yes19 fun w hw => ?_
  have hp := reach_pair hv hup hr l hl ha hw
  unfold lvl at hp
  simp only [Int.toNat_natCast] at hp
  have hfa : folE p l (makeT p l up) a w = folA p l (makeT p l up) a w := by
    unfold folE folA
    rw [if_pos ⟨ho, hvt⟩, if_pos ⟨nodB_nat ha, nodB_nat hw⟩, Int.toNat_natCast, Int.toNat_natCast]
  rw [hfa] at hp
  unfold rchB
  by_cases h1 : l.getD a 0 < 0
  · rw [decide_eq_true h1]; rfl
  by_cases h2 : l.getD w 0 < 0
  · rw [decide_eq_true h2]; simp
  obtain ⟨p1, _, p3, _⟩ := hp.2 (by omega) (by omega)
  rw [p1, p3]; simp
theorem im_nsl19 (f : Nat → List LV) : Im .nsl (.rsl 1 0 f) := by
  intro R v h
  cases h with
  | nsl => exact .rsl 1 0 f none 0 0 0 (fun _ _ => undef) (Nat.le_refl _) (Nat.zero_le _) (fun h => absurd h (by omega)) (fun i hi => absurd hi (by omega)) (fun i j hi => absurd hi (by omega)) (fun i j c hi => absurd hi (by omega)) (fun i j hi => absurd hi (by omega))
theorem ev_lawReach (p : Pl) (hp : PlOk p) (up : List Bool) (ri : Int) (hri : 0 ≤ ri ∧ ri ≤ 255) : Ev Tryd.prog 8 [plV p, boolsV up, .sc (.int .u8 ri)] (.sc (.bool true)) := by
  have h0 := ev_awake19
  have h1 : Ev Tryd.prog 12 [plV p, .agg [.nsl], boolsV up] (.sc (.int .i64 (if smallB p [] up = true then 1 else 0))) := by
    exact ev_im (bs := [plV p, .agg [intsV []], boolsV up]) ⟨Im.refl _, Im.aggL ⟨im_nsl19 _, trivial⟩, Im.refl _, trivial⟩ (ev_small19 p [] up)
  have h2 := ev_ref14 p
  have h3 := fun r => ev_of p hp up r
  have h4 := fun l => ev_make p hp l up
  have h5 := fun l => ev_Reaches p hp l (makeT p l up)
  have h6 := fun l x w => ev_Follow19 p hp l (makeT p l up) x w
  unfold plV boolsV intsV tabV at *
  refine ev_fn Tryd.func8 comp8 (show 3 ≤ Tryd.f8.ntmps by decide) ?_; unfold cf8 rf8; simp only [↓EVP0, EVQ0, EVQ1, EVQ2, EVQ3, EVQ4, EVA, EVK, EVF,EVFT, ↓reduceIte, Nat.reduceEqDiff, Nat.reduceAdd, Nat.reduceSub, Nat.reduceMul, Nat.reduceLT, Nat.reduceLeDiff, reduceCtorEq, Int.reduceToNat, Int.reduceLT, Int.reduceLE, Int.reduceAdd, Int.reduceSub, Int.reduceMul, Int.reduceNeg, Int.reduceEq, Nat.reduceMod, forall_eq_or_imp, forall_eq, forall_const, cond_true, cond_false, decide_true, decide_false, true_imp_iff, implies_true, Int.cast_ofNat_Int, forall_eq']
  refine callK_ro (h0) ?_ ?_
  · simp only [↓EVP0, EVQ0, EVQ1, EVQ2, EVQ3, EVQ4, EVA, EVK, EVF,EVFT, ↓reduceIte, Nat.reduceEqDiff, Nat.reduceAdd, Nat.reduceSub, Nat.reduceMul, Nat.reduceLT, Nat.reduceLeDiff, reduceCtorEq, Int.reduceToNat, Int.reduceLT, Int.reduceLE, Int.reduceAdd, Int.reduceSub, Int.reduceMul, Int.reduceNeg, Int.reduceEq, Nat.reduceMod, forall_eq_or_imp, forall_eq, forall_const, cond_true, cond_false, decide_true, decide_false, true_imp_iff, implies_true, Int.cast_ofNat_Int, forall_eq']
  simp only [↓EVP0, EVQ0, EVQ1, EVQ2, EVQ3, EVQ4, EVA, EVK, EVF,EVFT, ↓reduceIte, Nat.reduceEqDiff, Nat.reduceAdd, Nat.reduceSub, Nat.reduceMul, Nat.reduceLT, Nat.reduceLeDiff, reduceCtorEq, Int.reduceToNat, Int.reduceLT, Int.reduceLE, Int.reduceAdd, Int.reduceSub, Int.reduceMul, Int.reduceNeg, Int.reduceEq, Nat.reduceMod, forall_eq_or_imp, forall_eq, forall_const, cond_true, cond_false, decide_true, decide_false, true_imp_iff, implies_true, Int.cast_ofNat_Int, forall_eq']
  refine callK_ro (h1) ?_ ?_
  · simp only [↓EVP0, EVQ0, EVQ1, EVQ2, EVQ3, EVQ4, EVA, EVK, EVF,EVFT, ↓reduceIte, Nat.reduceEqDiff, Nat.reduceAdd, Nat.reduceSub, Nat.reduceMul, Nat.reduceLT, Nat.reduceLeDiff, reduceCtorEq, Int.reduceToNat, Int.reduceLT, Int.reduceLE, Int.reduceAdd, Int.reduceSub, Int.reduceMul, Int.reduceNeg, Int.reduceEq, Nat.reduceMod, forall_eq_or_imp, forall_eq, forall_const, cond_true, cond_false, decide_true, decide_false, true_imp_iff, implies_true, Int.cast_ofNat_Int, forall_eq']
  simp only [↓EVP0, EVQ0, EVQ1, EVQ2, EVQ3, EVQ4, EVA, EVK, EVF,EVFT, ↓reduceIte, Nat.reduceEqDiff, Nat.reduceAdd, Nat.reduceSub, Nat.reduceMul, Nat.reduceLT, Nat.reduceLeDiff, reduceCtorEq, Int.reduceToNat, Int.reduceLT, Int.reduceLE, Int.reduceAdd, Int.reduceSub, Int.reduceMul, Int.reduceNeg, Int.reduceEq, Nat.reduceMod, forall_eq_or_imp, forall_eq, forall_const, cond_true, cond_false, decide_true, decide_false, true_imp_iff, implies_true, Int.cast_ofNat_Int, forall_eq']
  have hs : decide ((if smallB p [] up = true then (1 : Int) else 0) = 0) = !smallB p [] up := by cases smallB p [] up <;> rfl
  (refine lops_ge_imp ?_; simp only [↓EVP0, EVQ0, EVQ1, EVQ2, EVQ3, EVQ4, EVA, EVK, EVF,EVFT, ↓reduceIte, Nat.reduceEqDiff, Nat.reduceAdd, Nat.reduceSub, Nat.reduceMul, Nat.reduceLT, Nat.reduceLeDiff, reduceCtorEq, Int.reduceToNat, Int.reduceLT, Int.reduceLE, Int.reduceAdd, Int.reduceSub, Int.reduceMul, Int.reduceNeg, Int.reduceEq, Nat.reduceMod, forall_eq_or_imp, forall_eq, forall_const, cond_true, cond_false, decide_true, decide_false, true_imp_iff, implies_true, Int.cast_ofNat_Int, forall_eq'])
  refine gCallK_ro _ (fun _ => h2) (fun _ => ?_) ?_
  · simp only [↓EVP0, EVQ0, EVQ1, EVQ2, EVQ3, EVQ4, EVA, EVK, EVF,EVFT, ↓reduceIte, Nat.reduceEqDiff, Nat.reduceAdd, Nat.reduceSub, Nat.reduceMul, Nat.reduceLT, Nat.reduceLeDiff, reduceCtorEq, Int.reduceToNat, Int.reduceLT, Int.reduceLE, Int.reduceAdd, Int.reduceSub, Int.reduceMul, Int.reduceNeg, Int.reduceEq, Nat.reduceMod, forall_eq_or_imp, forall_eq, forall_const, cond_true, cond_false, decide_true, decide_false, true_imp_iff, implies_true, Int.cast_ofNat_Int, forall_eq']
  simp only [↓EVP0, EVQ0, EVQ1, EVQ2, EVQ3, EVQ4, EVA, EVK, EVF,EVFT, ↓reduceIte, Nat.reduceEqDiff, Nat.reduceAdd, Nat.reduceSub, Nat.reduceMul, Nat.reduceLT, Nat.reduceLeDiff, reduceCtorEq, Int.reduceToNat, Int.reduceLT, Int.reduceLE, Int.reduceAdd, Int.reduceSub, Int.reduceMul, Int.reduceNeg, Int.reduceEq, Nat.reduceMod, forall_eq_or_imp, forall_eq, forall_const, cond_true, cond_false, decide_true, decide_false, true_imp_iff, implies_true, Int.cast_ofNat_Int, forall_eq']
  rw [hs]
  refine ⟨fun _ => trivial, fun hg => ?_⟩
  have c1 : smallB p [] up = true := by
    cases h : smallB p [] up
    · rw [h] at hg; simp at hg
    · rfl
  have hv : validE p = 0 := by
    by_cases h : validE p = 0
    · exact h
    · rw [c1, decide_eq_false h] at hg; simp at hg
  have hup : up.length = p.cs.length := by
    by_cases h : (up.length : Int) = p.cs.length
    · omega
    · rw [c1, decide_eq_true hv, decide_eq_false h] at hg; simp at hg
  have hN : (p.ns.length : Int) ≠ 0 := by
    intro h
    rw [c1, decide_eq_true hv, decide_eq_true (show (up.length : Int) = p.cs.length by omega), decide_eq_true h] at hg; simp at hg
  have h88 : p.ns.length ≤ 8 := by
    unfold smallB at c1
    simp only [Bool.and_eq_true, decide_eq_true_eq] at c1
    exact c1.1
  have hR : 0 ≤ ri.tmod (p.ns.length : Int) ∧ ri.tmod (p.ns.length : Int) < (p.ns.length : Int) := ⟨Int.tmod_nonneg _ hri.1, Int.tmod_lt_of_pos _ (by omega)⟩
  refine ⟨by unfold In64; omega, hN, ?_⟩
  generalize hRe : ri.tmod (p.ns.length : Int) = r at hR ⊢
  have hr : inN p.ns.length r := hR
  have hof : ofE p up r = (distL p.ns.length (upU p.cs up) r, 0) := by
    unfold ofE usableB
    rw [decide_eq_true hv, hup, decide_eq_true rfl, decide_eq_false (show ¬ r < 0 by omega), decide_eq_false (show ¬ (p.ns.length : Int) ≤ r by omega)]; rfl
  have ho : ordB p (distL p.ns.length (upU p.cs up) r) = true := ord_dist hv hr
  have hll : (distL p.ns.length (upU p.cs up) r).length = p.ns.length := distL_length
  have hRA := reach_all hv hup hr _ rfl
  have hRP := fun a w (ha : a < p.ns.length) (hw : w < p.ns.length) => reach_pair hv hup hr _ rfl ha hw
  have hml := makeT_len p (distL p.ns.length (upU p.cs up) r) up
  generalize hl : distL p.ns.length (upU p.cs up) r = l at *
  have h31 := h3 r
  rw [hof] at h31
  have h41 := h4 l h88
  rw [show makeE p l up = (makeT p l up, 0) by unfold makeE; rw [if_pos ⟨ho, hup⟩]] at h41
  have h51 := h5 l
  rw [hRA] at h51
  first | refine qCallK_ro (h31) ?_ ?_ | refine eCallK_ro (h31) ?_ ?_
  · simp only [↓EVP0, EVQ0, EVQ1, EVQ2, EVQ3, EVQ4, EVA, EVK, EVF,EVFT, ↓reduceIte, Nat.reduceEqDiff, Nat.reduceAdd, Nat.reduceSub, Nat.reduceMul, Nat.reduceLT, Nat.reduceLeDiff, reduceCtorEq, Int.reduceToNat, Int.reduceLT, Int.reduceLE, Int.reduceAdd, Int.reduceSub, Int.reduceMul, Int.reduceNeg, Int.reduceEq, Nat.reduceMod, forall_eq_or_imp, forall_eq, forall_const, cond_true, cond_false, decide_true, decide_false, true_imp_iff, implies_true, Int.cast_ofNat_Int, forall_eq']
  simp only [↓EVP0, EVQ0, EVQ1, EVQ2, EVQ3, EVQ4, EVA, EVK, EVF,EVFT, ↓reduceIte, Nat.reduceEqDiff, Nat.reduceAdd, Nat.reduceSub, Nat.reduceMul, Nat.reduceLT, Nat.reduceLeDiff, reduceCtorEq, Int.reduceToNat, Int.reduceLT, Int.reduceLE, Int.reduceAdd, Int.reduceSub, Int.reduceMul, Int.reduceNeg, Int.reduceEq, Nat.reduceMod, forall_eq_or_imp, forall_eq, forall_const, cond_true, cond_false, decide_true, decide_false, true_imp_iff, implies_true, Int.cast_ofNat_Int, forall_eq']
  refine callK_ro (h41) ?_ ?_
  · simp only [↓EVP0, EVQ0, EVQ1, EVQ2, EVQ3, EVQ4, EVA, EVK, EVF,EVFT, ↓reduceIte, Nat.reduceEqDiff, Nat.reduceAdd, Nat.reduceSub, Nat.reduceMul, Nat.reduceLT, Nat.reduceLeDiff, reduceCtorEq, Int.reduceToNat, Int.reduceLT, Int.reduceLE, Int.reduceAdd, Int.reduceSub, Int.reduceMul, Int.reduceNeg, Int.reduceEq, Nat.reduceMod, forall_eq_or_imp, forall_eq, forall_const, cond_true, cond_false, decide_true, decide_false, true_imp_iff, implies_true, Int.cast_ofNat_Int, forall_eq']
  simp only [↓EVP0, EVQ0, EVQ1, EVQ2, EVQ3, EVQ4, EVA, EVK, EVF,EVFT, ↓reduceIte, Nat.reduceEqDiff, Nat.reduceAdd, Nat.reduceSub, Nat.reduceMul, Nat.reduceLT, Nat.reduceLeDiff, reduceCtorEq, Int.reduceToNat, Int.reduceLT, Int.reduceLE, Int.reduceAdd, Int.reduceSub, Int.reduceMul, Int.reduceNeg, Int.reduceEq, Nat.reduceMod, forall_eq_or_imp, forall_eq, forall_const, cond_true, cond_false, decide_true, decide_false, true_imp_iff, implies_true, Int.cast_ofNat_Int, forall_eq']
  (refine lops_ge_imp ?_; simp only [↓EVP0, EVQ0, EVQ1, EVQ2, EVQ3, EVQ4, EVA, EVK, EVF,EVFT, ↓reduceIte, Nat.reduceEqDiff, Nat.reduceAdd, Nat.reduceSub, Nat.reduceMul, Nat.reduceLT, Nat.reduceLeDiff, reduceCtorEq, Int.reduceToNat, Int.reduceLT, Int.reduceLE, Int.reduceAdd, Int.reduceSub, Int.reduceMul, Int.reduceNeg, Int.reduceEq, Nat.reduceMod, forall_eq_or_imp, forall_eq, forall_const, cond_true, cond_false, decide_true, decide_false, true_imp_iff, implies_true, Int.cast_ofNat_Int, forall_eq'])
  refine gCallK_ro _ (fun _ => h51) (fun _ => ?_) ?_
  · simp only [↓EVP0, EVQ0, EVQ1, EVQ2, EVQ3, EVQ4, EVA, EVK, EVF,EVFT, ↓reduceIte, Nat.reduceEqDiff, Nat.reduceAdd, Nat.reduceSub, Nat.reduceMul, Nat.reduceLT, Nat.reduceLeDiff, reduceCtorEq, Int.reduceToNat, Int.reduceLT, Int.reduceLE, Int.reduceAdd, Int.reduceSub, Int.reduceMul, Int.reduceNeg, Int.reduceEq, Nat.reduceMod, forall_eq_or_imp, forall_eq, forall_const, cond_true, cond_false, decide_true, decide_false, true_imp_iff, implies_true, Int.cast_ofNat_Int, forall_eq']
  simp only [↓EVP0, EVQ0, EVQ1, EVQ2, EVQ3, EVQ4, EVA, EVK, EVF,EVFT, ↓reduceIte, Nat.reduceEqDiff, Nat.reduceAdd, Nat.reduceSub, Nat.reduceMul, Nat.reduceLT, Nat.reduceLeDiff, reduceCtorEq, Int.reduceToNat, Int.reduceLT, Int.reduceLE, Int.reduceAdd, Int.reduceSub, Int.reduceMul, Int.reduceNeg, Int.reduceEq, Nat.reduceMod, forall_eq_or_imp, forall_eq, forall_const, cond_true, cond_false, decide_true, decide_false, true_imp_iff, implies_true, Int.cast_ofNat_Int, forall_eq']
  rw [decide_eq_true (show (l.length : Int) = p.ns.length by omega), hml]
  refine ⟨fun h => by simp at h, fun _ _ => ?_⟩
  refine lwp_for (α := Unit) p.ns.length (fun _ _ => True) (fun a _ => [(1, .rsl 1 up.length (boolsF up)), (3, .ptr 0 0 0 0 0), (7, .ptr 1 0 0 0 0), (9, .ptr 2 0 0 0 0), (86, .sc (.int .i64 p.ns.length)), (87, .sc (.int .i64 a))])
    (fun _ _ => [(0, .box [.rsl 3 p.ns.length (ndsF p.ns), .rsl 6 p.cs.length (cbsF p.cs)]), (0, .box [.rsl 1 l.length (intsF l)]), (0, .box [.rsl 2 p.ns.length (tabF (makeT p l up))])]) () trivial ?_ (fun _ _ => Nat.zero_le _) ?_
  · simp only [↓EVP0, EVQ0, EVQ1, EVQ2, EVQ3, EVQ4, EVA, EVK, EVF,EVFT, ↓reduceIte, Nat.reduceEqDiff, Nat.reduceAdd, Nat.reduceSub, Nat.reduceMul, Nat.reduceLT, Nat.reduceLeDiff, reduceCtorEq, Int.reduceToNat, Int.reduceLT, Int.reduceLE, Int.reduceAdd, Int.reduceSub, Int.reduceMul, Int.reduceNeg, Int.reduceEq, Nat.reduceMod, forall_eq_or_imp, forall_eq, forall_const, cond_true, cond_false, decide_true, decide_false, true_imp_iff, implies_true, Int.cast_ofNat_Int, forall_eq']
  intro a _ ha _
  unfold lb8_2
  simp only [↓EVP0, EVQ0, EVQ1, EVQ2, EVQ3, EVQ4, EVA, EVK, EVF,EVFT, ↓reduceIte, Nat.reduceEqDiff, Nat.reduceAdd, Nat.reduceSub, Nat.reduceMul, Nat.reduceLT, Nat.reduceLeDiff, reduceCtorEq, Int.reduceToNat, Int.reduceLT, Int.reduceLE, Int.reduceAdd, Int.reduceSub, Int.reduceMul, Int.reduceNeg, Int.reduceEq, Nat.reduceMod, forall_eq_or_imp, forall_eq, forall_const, cond_true, cond_false, decide_true, decide_false, true_imp_iff, implies_true, Int.cast_ofNat_Int, forall_eq']
  refine ⟨fun hg2 => ?_, fun hg2 => ?_⟩
  rotate_left
  · trivial
  have ha2 : a < p.ns.length := by have := of_decide_eq_true hg2; omega
  intro _
  refine lwp_for (α := Unit) p.ns.length (fun _ _ => True) (fun w _ => [(1, .rsl 1 up.length (boolsF up)), (3, .ptr 0 0 0 0 0), (7, .ptr 1 0 0 0 0), (9, .ptr 2 0 0 0 0), (11, .sc (.int .i64 a)), (86, .sc (.int .i64 p.ns.length)), (87, .sc (.int .i64 a)), (92, .sc (.int .i64 p.ns.length)), (93, .sc (.int .i64 w))])
    (fun _ _ => [(0, .box [.rsl 3 p.ns.length (ndsF p.ns), .rsl 6 p.cs.length (cbsF p.cs)]), (0, .box [.rsl 1 l.length (intsF l)]), (0, .box [.rsl 2 p.ns.length (tabF (makeT p l up))])]) () trivial ?_ (fun _ _ => Nat.zero_le _) ?_
  · simp only [↓EVP0, EVQ0, EVQ1, EVQ2, EVQ3, EVQ4, EVA, EVK, EVF,EVFT, ↓reduceIte, Nat.reduceEqDiff, Nat.reduceAdd, Nat.reduceSub, Nat.reduceMul, Nat.reduceLT, Nat.reduceLeDiff, reduceCtorEq, Int.reduceToNat, Int.reduceLT, Int.reduceLE, Int.reduceAdd, Int.reduceSub, Int.reduceMul, Int.reduceNeg, Int.reduceEq, Nat.reduceMod, forall_eq_or_imp, forall_eq, forall_const, cond_true, cond_false, decide_true, decide_false, true_imp_iff, implies_true, Int.cast_ofNat_Int, forall_eq']
  intro w _ hw _
  unfold lb8_1
  simp only [↓EVP0, EVQ0, EVQ1, EVQ2, EVQ3, EVQ4, EVA, EVK, EVF,EVFT, ↓reduceIte, Nat.reduceEqDiff, Nat.reduceAdd, Nat.reduceSub, Nat.reduceMul, Nat.reduceLT, Nat.reduceLeDiff, reduceCtorEq, Int.reduceToNat, Int.reduceLT, Int.reduceLE, Int.reduceAdd, Int.reduceSub, Int.reduceMul, Int.reduceNeg, Int.reduceEq, Nat.reduceMod, forall_eq_or_imp, forall_eq, forall_const, cond_true, cond_false, decide_true, decide_false, true_imp_iff, implies_true, Int.cast_ofNat_Int, forall_eq']
  refine ⟨fun hg3 => ?_, fun hg3 => ?_⟩
  rotate_left
  · exact ⟨by unfold In64; omega, ha2, (), trivial⟩
  have hw2 : w < p.ns.length := by have := of_decide_eq_true hg3; omega
  have hq := hRP a w ha2 hw2
  have h61 := h6 l a w
  rw [hml] at h61
  generalize folE p l (makeT p l up) a w = F at hq h61
  refine callK_ro (h61) ?_ ?_
  · simp only [↓EVP0, EVQ0, EVQ1, EVQ2, EVQ3, EVQ4, EVA, EVK, EVF,EVFT, ↓reduceIte, Nat.reduceEqDiff, Nat.reduceAdd, Nat.reduceSub, Nat.reduceMul, Nat.reduceLT, Nat.reduceLeDiff, reduceCtorEq, Int.reduceToNat, Int.reduceLT, Int.reduceLE, Int.reduceAdd, Int.reduceSub, Int.reduceMul, Int.reduceNeg, Int.reduceEq, Nat.reduceMod, forall_eq_or_imp, forall_eq, forall_const, cond_true, cond_false, decide_true, decide_false, true_imp_iff, implies_true, Int.cast_ofNat_Int, forall_eq']
  simp only [↓EVP0, EVQ0, EVQ1, EVQ2, EVQ3, EVQ4, EVA, EVK, EVF,EVFT, ↓reduceIte, Nat.reduceEqDiff, Nat.reduceAdd, Nat.reduceSub, Nat.reduceMul, Nat.reduceLT, Nat.reduceLeDiff, reduceCtorEq, Int.reduceToNat, Int.reduceLT, Int.reduceLE, Int.reduceAdd, Int.reduceSub, Int.reduceMul, Int.reduceNeg, Int.reduceEq, Nat.reduceMod, forall_eq_or_imp, forall_eq, forall_const, cond_true, cond_false, decide_true, decide_false, true_imp_iff, implies_true, Int.cast_ofNat_Int, forall_eq']
  unfold lvl at hq
  simp only [Int.toNat_natCast] at hq
  have r1 := (ord_of ho).rng (a : Int) (by unfold inN; omega)
  have r2 := (ord_of ho).rng (w : Int) (by unfold inN; omega)
  unfold lvl at r1 r2
  simp only [Int.toNat_natCast] at r1 r2
  have hnx : In64 ((w : Int) + 1) ∧ w < p.ns.length ∧ ∃ y : Unit, True := ⟨by unfold In64; omega, hw2, (), trivial⟩
  refine ⟨⟨by omega, by omega⟩, fun _ => ⟨by omega, by omega⟩, fun hg4 => ⟨fun hg5 => ?_, fun _ => hnx⟩, fun hg4 => ?_⟩
  · have hlt : l.getD a 0 < 0 ∨ l.getD w 0 < 0 := by
      by_cases b1 : l.getD a 0 < 0
      · exact .inl b1
      by_cases b2 : l.getD w 0 < 0
      · exact .inr b2
      rw [decide_eq_false b1, decide_eq_false b2] at hg4; simp at hg4
    by_cases e : a = w
    · rw [decide_eq_true (show (a : Int) = w by omega)] at hg5; simp at hg5
    · rw [hq.1 hlt e, decide_eq_false (show ¬ (a : Int) = w by omega)] at hg5; simp at hg5
  have hge : 0 ≤ l.getD a 0 ∧ 0 ≤ l.getD w 0 := by
    by_cases b1 : l.getD a 0 < 0
    · rw [decide_eq_true b1] at hg4; simp at hg4
    by_cases b2 : l.getD w 0 < 0
    · rw [decide_eq_false b1, decide_eq_true b2] at hg4; simp at hg4
    omega
  obtain ⟨f1, f2, _, f4⟩ := hq.2 hge.1 hge.2
  obtain ⟨path, fe⟩ := F
  simp only at f1 f2 f4
  subst f1
  simp only
  refine ⟨fun _ => ⟨by omega, by omega⟩, fun _ => ⟨by omega, by omega⟩, fun _ => by unfold In64; omega, fun h => ?_, fun _ _ => ?_⟩
  · rw [decide_eq_false (show ¬ l.getD a 0 + l.getD w 0 < (path.length : Int) by omega)] at h; simp at h
  refine lwp_for (α := Unit) path.length (fun _ _ => True) (fun i _ => [(1, .rsl 1 up.length (boolsF up)), (3, .ptr 0 0 0 0 0), (7, .ptr 1 0 0 0 0), (9, .ptr 2 0 0 0 0), (11, .sc (.int .i64 a)), (86, .sc (.int .i64 p.ns.length)), (87, .sc (.int .i64 a)), (92, .sc (.int .i64 p.ns.length)), (93, .sc (.int .i64 w)), (144, .rsl 1 path.length (intsF path)), (145, .sc (.int .i64 path.length)), (146, .sc (.int .i64 i))])
    (fun _ _ => [(0, .box [.rsl 3 p.ns.length (ndsF p.ns), .rsl 6 p.cs.length (cbsF p.cs)]), (0, .box [.rsl 1 l.length (intsF l)]), (0, .box [.rsl 2 p.ns.length (tabF (makeT p l up))])]) () trivial ?_ (fun _ _ => Nat.zero_le _) ?_
  · simp only [↓EVP0, EVQ0, EVQ1, EVQ2, EVQ3, EVQ4, EVA, EVK, EVF,EVFT, ↓reduceIte, Nat.reduceEqDiff, Nat.reduceAdd, Nat.reduceSub, Nat.reduceMul, Nat.reduceLT, Nat.reduceLeDiff, reduceCtorEq, Int.reduceToNat, Int.reduceLT, Int.reduceLE, Int.reduceAdd, Int.reduceSub, Int.reduceMul, Int.reduceNeg, Int.reduceEq, Nat.reduceMod, forall_eq_or_imp, forall_eq, forall_const, cond_true, cond_false, decide_true, decide_false, true_imp_iff, implies_true, Int.cast_ofNat_Int, forall_eq']
  intro i _ hi _
  unfold lb8_0
  simp only [↓EVP0, EVQ0, EVQ1, EVQ2, EVQ3, EVQ4, EVA, EVK, EVF,EVFT, ↓reduceIte, Nat.reduceEqDiff, Nat.reduceAdd, Nat.reduceSub, Nat.reduceMul, Nat.reduceLT, Nat.reduceLeDiff, reduceCtorEq, Int.reduceToNat, Int.reduceLT, Int.reduceLE, Int.reduceAdd, Int.reduceSub, Int.reduceMul, Int.reduceNeg, Int.reduceEq, Nat.reduceMod, forall_eq_or_imp, forall_eq, forall_const, cond_true, cond_false, decide_true, decide_false, true_imp_iff, implies_true, Int.cast_ofNat_Int, forall_eq']
  refine ⟨fun hg6 => ?_, fun hg6 => ?_⟩
  rotate_left
  · exact hnx
  have hi2 : i < path.length := by have := of_decide_eq_true hg6; omega
  obtain ⟨c1', c2'⟩ := f4 _ (getD_mem 0 hi2)
  unfold cabB at c1'
  simp only [Bool.and_eq_true, decide_eq_true_eq] at c1'
  generalize path.getD i 0 = c at *
  refine ⟨⟨by omega, by omega⟩, fun _ => ⟨by omega, by omega⟩, fun h => ?_, fun _ => ⟨by unfold In64; omega, hi2, (), trivial⟩⟩
  rw [decide_eq_false (show ¬ c < 0 by omega), decide_eq_false (show ¬ (up.length : Int) ≤ c by omega), c2'] at h
  simp at h
end Go.Proofs.YtcdepkflghcjpaaDoor
