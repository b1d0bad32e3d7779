/- An order among the arguments, opened; Chosen paths are legal and shortest; The rest of a chosen path is as long as the next node's distance; For every plan, order, list of cables that are up, and two nodes: the law's function answers true, and its arguments read as they did. Conditions: none. -/
import Derived.Test.YtibpkgopbecfoaaMG
namespace Go.Proofs.Ytibpkgopbecfoaa
set_option linter.unusedSimpArgs false
set_option linter.unusedVariables false
open Go.RowKit
set_option maxRecDepth 100000

theorem arg_order {lv : LV} (h : fitA Try.prog 30 lv) : ∃ l : List Int, Im lv (.agg [intsV l]) ∧ (∀ x, x ∈ l → In64 x) ∧ l.length ≤ maxLen := by
  obtain ⟨ls, rfl, h0⟩ := arg_agg (by kernel_rfl) h
  obtain ⟨h1, d', h2⟩ := fit_flat Try.underlying30 (n := 1) (by kernel_rfl) (by kernel_rfl) h0
  obtain ⟨a, rfl⟩ : ∃ a, ls = [a] := by
    match ls, h1 with
    | [a], _ => exact ⟨a, rfl⟩
  obtain ⟨x, hx, h3⟩ := h2 0 _ rfl
  simp at hx
  subst hx
  obtain ⟨l, il, hl, nl⟩ := sl_i64 Try.underlying26 Try.underlying3 (by kernel_rfl) h3
  exact ⟨l, Im.aggL ⟨il, trivial⟩, hl, nl⟩
end Go.Proofs.Ytibpkgopbecfoaa
namespace Go.Proofs.Ytibpkgopbecfoaa
set_option linter.unusedSimpArgs false
set_option linter.unusedVariables false
open Go.RowKit
set_option maxRecDepth 20000

section
variable {p : Pl} {l : List Int} {up : List Bool} {to : Int} {D : St → Int}
theorem edg_acr (hv : validE p = 0) {s t : St} {i : Nat} (hi : i < p.cs.length) (h : EdgJ l p.cs up i s t) : (acrE (p.cs.getD i default) s.1).2 = true ∧ (acrE (p.cs.getD i default) s.1).1 = t.1 :=
  (acr_iff ((valid_of hv).self _ (getD_mem default hi))).1 h.2.1
/-- What can be reached by falling can be reached at most as far by rising. -/
theorem fall_rise (hv : validE p = 0) (hll : l.length = p.ns.length) (hD : DFacts p.ns.length l p.cs up to D) : ∀ (k : Nat) (x : Int), D (x, true) = k → 0 ≤ D (x, false) ∧ D (x, false) ≤ k
  | 0, x, h => by
    have := (hD.zero (x, true)).1 h
    have h2 := (hD.zero (x, false)).2 this
    omega
  | k + 1, x, h => by
    obtain ⟨t, he, hd⟩ := hD.next (x, true) (by omega)
    have hst := edg_stp hll (valid_of hv).cab (valid_of hv).self he
    obtain ⟨i, hi, he⟩ := he
    obtain ⟨e1, e2, e3, e4⟩ := he
    have hs : (!aboveB l t.1 x) = true := by
      rcases hst with ⟨a, _⟩ | ⟨_, b, _⟩
      · rw [e3] at a; exact a
      · simp at b
    have := hD.edge (x, false) t ⟨i, hi, e1, e2, e3, by show (!aboveB l t.1 x || !false) = true; rw [hs]; rfl⟩ (by omega)
    omega
theorem no_back (hv : validE p = 0) (hll : l.length = p.ns.length) (hD : DFacts p.ns.length l p.cs up to D) {r s t : St} {i : Nat} (hi : i < p.cs.length) (h1 : EdgJ l p.cs up i r s) (h2 : EdgJ l p.cs up i s t) (d1 : D s = D r - 1) (d2 : D t = D s - 1) (d0 : 0 ≤ D t) : False := by
  have hne := (valid_of hv).self _ (getD_mem default hi)
  have hte : t.1 = r.1 := by
    rcases h1.2.1 with ⟨a1, a2⟩ | ⟨a1, a2⟩ <;> rcases h2.2.1 with ⟨b1, b2⟩ | ⟨b1, b2⟩
    · exact absurd (b1.symm.trans a2) hne
    · rw [b2, a1]
    · rw [b2, a1]
    · exact absurd (a2.symm.trans b1) hne
  have s1 := edg_stp hll (valid_of hv).cab (valid_of hv).self ⟨i, hi, h1⟩
  have s2 := edg_stp hll (valid_of hv).cab (valid_of hv).self ⟨i, hi, h2⟩
  rw [hte] at s2
  rcases s1 with ⟨a1, a2⟩ | ⟨a1, a2, a3⟩
  · -- downward, and then not upward again
    rcases s2 with ⟨b1, b2⟩ | ⟨b1, b2, b3⟩
    · have x1 := (stp2.1 a2).2
      have x2 := (stp2.1 b2).1
      rw [x1] at x2; simp at x2
    · rw [a1] at b2; simp at b2
  · rcases s2 with ⟨b1, b2⟩ | ⟨b1, b2, b3⟩
    · have ht : t = (r.1, true) := Prod.ext hte b1
      have hr : r = (r.1, false) := Prod.ext rfl a2
      rw [ht] at d0 d2
      have := fall_rise hv hll hD (D (r.1, true)).toNat r.1 (by omega)
      rw [hr] at d1
      omega
    · have x1 := stp1.1 a3
      have x2 := stp1.1 b3
      obtain ⟨n1, n2⟩ := edg_in (valid_of hv).cab hi h1
      rw [above_iff hll n2 n1] at x1
      rw [above_iff hll n1 n2] at x2
      omega
structure Cho (p : Pl) (l : List Int) (up : List Bool) (to : Int) (k : Nat) (s : St) (pr : Option Int) (path ns : List Int) : Prop where
  walk : wlk p.cs s.1 path = some ns
  len : ns.length = k ∧ path.length = k
  cab : path.all (cabB p) = true
  up : ∀ c, c ∈ path → up.getD c.toNat false = true
  lvs : lvs l ns = true
  leg : lgl l p.cs s.1 s.2 pr path = true
  last : (s.1 :: ns).getD k 0 = to
theorem chs_ok (hv : validE p = 0) (hll : l.length = p.ns.length) (ht : inN p.ns.length to) (hD : DFacts p.ns.length l p.cs up to D) : ∀ (k : Nat) (s : St) (pr : Option Int), D s = k → (∀ (i : Nat) (t : St), i < p.cs.length → EdgJ l p.cs up i s t → D t = D s - 1 → 0 ≤ D t → pr ≠ some (i : Int)) → ∃ ns, Cho p l up to k s pr (chs l p.cs up D k s) ns
  | 0, s, pr, hk, _ => ⟨[], rfl, ⟨rfl, rfl⟩, rfl, fun c hc => by simp [chs] at hc, rfl, rfl, ((hD.zero s).1 hk).1⟩
  | k + 1, s, pr, hk, hpr => by
    obtain ⟨i, t, q1, q2, q3, q4, _⟩ := fst_some hv hll ht hD hk (by omega)
    have hch : chs l p.cs up D (k + 1) s = (i : Int) :: chs l p.cs up D k t := by simp only [chs]; rw [q1]
    obtain ⟨ns, h⟩ := chs_ok hv hll ht hD k t (some (i : Int)) (by omega) (fun j u hj he hd h0 e => by
      have hij : j = i := by simp at e; omega
      subst hij
      exact no_back hv hll hD q2 q3 he (by omega) hd h0)
    obtain ⟨a1, a2⟩ := edg_acr hv q2 q3
    have e3 := q3.2.2.1
    have e4 := q3.2.2.2
    rw [hch]
    refine ⟨t.1 :: ns, ?_, ⟨by simp [h.len.1], by simp [h.len.2]⟩, ?_, ?_, ?_, ?_, ?_⟩
    · unfold wlk
      rw [Int.toNat_natCast, if_pos a1, a2, h.walk]; rfl
    · rw [List.all_cons, h.cab]
      unfold cabB
      simp; omega
    · intro c hc
      rcases List.mem_cons.1 hc with rfl | hc
      · rw [Int.toNat_natCast]; exact (edg_lvl q3).2.2
      · exact h.up c hc
    · have := h.lvs
      unfold Proofs.Ytibpkgopbecfoaa.lvs at this ⊢
      rw [List.all_cons, this, decide_eq_true (edg_lvl q3).2.1]; rfl
    · unfold lgl
      rw [Int.toNat_natCast, a2, ← e3, h.leg]
      rw [← e3] at e4
      have hp := hpr i t q2 q3 (by omega) (by omega)
      rw [e4, decide_eq_false hp]; rfl
    · rw [List.getD_cons_succ]; exact h.last
end
theorem fit_of {p : Pl} {l : List Int} {up : List Bool} (h : fitB p l up = true) : validE p = 0 ∧ up.length = p.cs.length ∧ ordB p l = true := by
  unfold fitB at h
  simp only [Bool.and_eq_true, decide_eq_true_eq] at h
  exact ⟨h.2.1, h.2.2.1, h.2.2.2⟩
theorem nodes_cho {p : Pl} (hv : validE p = 0) {l : List Int} {up : List Bool} {to : Int} {k : Nat} {s : St} {pr : Option Int} {path ns : List Int} (hs : nodB p s.1 = true) (h : Cho p l up to k s pr path ns) : nodesE p s.1 path = (s.1 :: ns, 0) := by
  unfold nodesE
  rw [if_pos hv, if_pos hs, if_pos h.cab, h.walk]
theorem ev_lawChooses (p : Pl) (hp : PlOk p) (l : List Int) (up : List Bool) (f to : Int) : Ev Try.prog 7 [plV p, .agg [intsV l], boolsV up, .sc (.int .i64 f), .sc (.int .i64 to)] (.sc (.bool true)) := by
  have h1 := ev_awake18
  have h2 := ev_fit p l up
  have h3 := ev_nodeL p
  have h4 := ev_Dist p hp l up to
  have h5 := ev_path p hp l up f to
  have h6 := ev_nodes p hp f
  have h7 := ev_legal p hp l f
  unfold plV boolsV intsV at *
  refine ev_fn Try.func7 comp7 (show 5 ≤ Try.f7.ntmps by decide) ?_; unfold cf7 rf7; simp only [↓EVP0, EVQ0, EVQ1, EVQ2, EVQ3, EVQ4, EVA, EVK, EVF, ↓reduceIte, Nat.reduceEqDiff, Nat.reduceAdd, Nat.reduceSub, Nat.reduceMul, Nat.reduceLT, Nat.reduceLeDiff, reduceCtorEq, Int.reduceToNat, Int.reduceLT, Int.reduceLE, Int.reduceAdd, Int.reduceSub, Int.reduceMul, Int.reduceNeg, Int.reduceEq, Nat.reduceMod, forall_eq_or_imp, forall_eq, forall_const, cond_true, cond_false, decide_true, decide_false, true_imp_iff, implies_true, Int.cast_ofNat_Int, forall_eq']
  refine callK_ro (h1) ?_ ?_
  · simp only [↓EVP0, EVQ0, EVQ1, EVQ2, EVQ3, EVQ4, EVA, EVK, EVF, ↓reduceIte, Nat.reduceEqDiff, Nat.reduceAdd, Nat.reduceSub, Nat.reduceMul, Nat.reduceLT, Nat.reduceLeDiff, reduceCtorEq, Int.reduceToNat, Int.reduceLT, Int.reduceLE, Int.reduceAdd, Int.reduceSub, Int.reduceMul, Int.reduceNeg, Int.reduceEq, Nat.reduceMod, forall_eq_or_imp, forall_eq, forall_const, cond_true, cond_false, decide_true, decide_false, true_imp_iff, implies_true, Int.cast_ofNat_Int, forall_eq']
  simp only [↓EVP0, EVQ0, EVQ1, EVQ2, EVQ3, EVQ4, EVA, EVK, EVF, ↓reduceIte, Nat.reduceEqDiff, Nat.reduceAdd, Nat.reduceSub, Nat.reduceMul, Nat.reduceLT, Nat.reduceLeDiff, reduceCtorEq, Int.reduceToNat, Int.reduceLT, Int.reduceLE, Int.reduceAdd, Int.reduceSub, Int.reduceMul, Int.reduceNeg, Int.reduceEq, Nat.reduceMod, forall_eq_or_imp, forall_eq, forall_const, cond_true, cond_false, decide_true, decide_false, true_imp_iff, implies_true, Int.cast_ofNat_Int, forall_eq']
  refine callK_ro (h2) ?_ ?_
  · simp only [↓EVP0, EVQ0, EVQ1, EVQ2, EVQ3, EVQ4, EVA, EVK, EVF, ↓reduceIte, Nat.reduceEqDiff, Nat.reduceAdd, Nat.reduceSub, Nat.reduceMul, Nat.reduceLT, Nat.reduceLeDiff, reduceCtorEq, Int.reduceToNat, Int.reduceLT, Int.reduceLE, Int.reduceAdd, Int.reduceSub, Int.reduceMul, Int.reduceNeg, Int.reduceEq, Nat.reduceMod, forall_eq_or_imp, forall_eq, forall_const, cond_true, cond_false, decide_true, decide_false, true_imp_iff, implies_true, Int.cast_ofNat_Int, forall_eq']
  simp only [↓EVP0, EVQ0, EVQ1, EVQ2, EVQ3, EVQ4, EVA, EVK, EVF, ↓reduceIte, Nat.reduceEqDiff, Nat.reduceAdd, Nat.reduceSub, Nat.reduceMul, Nat.reduceLT, Nat.reduceLeDiff, reduceCtorEq, Int.reduceToNat, Int.reduceLT, Int.reduceLE, Int.reduceAdd, Int.reduceSub, Int.reduceMul, Int.reduceNeg, Int.reduceEq, Nat.reduceMod, forall_eq_or_imp, forall_eq, forall_const, cond_true, cond_false, decide_true, decide_false, true_imp_iff, implies_true, Int.cast_ofNat_Int, forall_eq']
  (refine lops_ge_imp ?_; simp only [↓EVP0, EVQ0, EVQ1, EVQ2, EVQ3, EVQ4, EVA, EVK, EVF, ↓reduceIte, Nat.reduceEqDiff, Nat.reduceAdd, Nat.reduceSub, Nat.reduceMul, Nat.reduceLT, Nat.reduceLeDiff, reduceCtorEq, Int.reduceToNat, Int.reduceLT, Int.reduceLE, Int.reduceAdd, Int.reduceSub, Int.reduceMul, Int.reduceNeg, Int.reduceEq, Nat.reduceMod, forall_eq_or_imp, forall_eq, forall_const, cond_true, cond_false, decide_true, decide_false, true_imp_iff, implies_true, Int.cast_ofNat_Int, forall_eq'])
  refine gCallK_ro _ (fun _ => h3 f) (fun _ => ?_) ?_
  · simp only [↓EVP0, EVQ0, EVQ1, EVQ2, EVQ3, EVQ4, EVA, EVK, EVF, ↓reduceIte, Nat.reduceEqDiff, Nat.reduceAdd, Nat.reduceSub, Nat.reduceMul, Nat.reduceLT, Nat.reduceLeDiff, reduceCtorEq, Int.reduceToNat, Int.reduceLT, Int.reduceLE, Int.reduceAdd, Int.reduceSub, Int.reduceMul, Int.reduceNeg, Int.reduceEq, Nat.reduceMod, forall_eq_or_imp, forall_eq, forall_const, cond_true, cond_false, decide_true, decide_false, true_imp_iff, implies_true, Int.cast_ofNat_Int, forall_eq']
  simp only [↓EVP0, EVQ0, EVQ1, EVQ2, EVQ3, EVQ4, EVA, EVK, EVF, ↓reduceIte, Nat.reduceEqDiff, Nat.reduceAdd, Nat.reduceSub, Nat.reduceMul, Nat.reduceLT, Nat.reduceLeDiff, reduceCtorEq, Int.reduceToNat, Int.reduceLT, Int.reduceLE, Int.reduceAdd, Int.reduceSub, Int.reduceMul, Int.reduceNeg, Int.reduceEq, Nat.reduceMod, forall_eq_or_imp, forall_eq, forall_const, cond_true, cond_false, decide_true, decide_false, true_imp_iff, implies_true, Int.cast_ofNat_Int, forall_eq']
  (refine lops_ge_imp ?_; simp only [↓EVP0, EVQ0, EVQ1, EVQ2, EVQ3, EVQ4, EVA, EVK, EVF, ↓reduceIte, Nat.reduceEqDiff, Nat.reduceAdd, Nat.reduceSub, Nat.reduceMul, Nat.reduceLT, Nat.reduceLeDiff, reduceCtorEq, Int.reduceToNat, Int.reduceLT, Int.reduceLE, Int.reduceAdd, Int.reduceSub, Int.reduceMul, Int.reduceNeg, Int.reduceEq, Nat.reduceMod, forall_eq_or_imp, forall_eq, forall_const, cond_true, cond_false, decide_true, decide_false, true_imp_iff, implies_true, Int.cast_ofNat_Int, forall_eq'])
  refine gCallK_ro _ (fun _ => h3 to) (fun _ => ?_) ?_
  · simp only [↓EVP0, EVQ0, EVQ1, EVQ2, EVQ3, EVQ4, EVA, EVK, EVF, ↓reduceIte, Nat.reduceEqDiff, Nat.reduceAdd, Nat.reduceSub, Nat.reduceMul, Nat.reduceLT, Nat.reduceLeDiff, reduceCtorEq, Int.reduceToNat, Int.reduceLT, Int.reduceLE, Int.reduceAdd, Int.reduceSub, Int.reduceMul, Int.reduceNeg, Int.reduceEq, Nat.reduceMod, forall_eq_or_imp, forall_eq, forall_const, cond_true, cond_false, decide_true, decide_false, true_imp_iff, implies_true, Int.cast_ofNat_Int, forall_eq']
  simp only [↓EVP0, EVQ0, EVQ1, EVQ2, EVQ3, EVQ4, EVA, EVK, EVF, ↓reduceIte, Nat.reduceEqDiff, Nat.reduceAdd, Nat.reduceSub, Nat.reduceMul, Nat.reduceLT, Nat.reduceLeDiff, reduceCtorEq, Int.reduceToNat, Int.reduceLT, Int.reduceLE, Int.reduceAdd, Int.reduceSub, Int.reduceMul, Int.reduceNeg, Int.reduceEq, Nat.reduceMod, forall_eq_or_imp, forall_eq, forall_const, cond_true, cond_false, decide_true, decide_false, true_imp_iff, implies_true, Int.cast_ofNat_Int, forall_eq']
  have ec : (bif bif !fitB p l up then true else !nodB p f then true else !nodB p to) = !decide (fitB p l up = true ∧ nodB p f = true ∧ nodB p to = true) := by
    cases fitB p l up <;> cases nodB p f <;> cases nodB p to <;> rfl
  rw [ec]
  refine ⟨fun _ => trivial, fun h => ?_⟩
  have hh : fitB p l up = true ∧ nodB p f = true ∧ nodB p to = true := by simpa using h
  obtain ⟨hfit, hnf, hnt⟩ := hh
  obtain ⟨hv, hup, ho⟩ := fit_of hfit
  have hO := ord_of ho
  have hf := nodB_in hnf
  have ht := nodB_in hnt
  have hD := d_facts (l := l) (cs := p.cs) (up := up) (show p.ns.length ≤ 100 by have := (valid_of hv).n16; omega) (valid_of hv).cab ht
  have ed : distE p l up to = ((dL p.ns.length l p.cs up to false p.ns.length, dL p.ns.length l p.cs up to true p.ns.length), 0) := by
    unfold distE; rw [if_pos ⟨ho, hup⟩, if_pos hnt]
  have ep : pathE p l up f to = if dS p.ns.length l p.cs up to (f, false) = -1 then ([], 12) else (chs l p.cs up (dS p.ns.length l p.cs up to) (dS p.ns.length l p.cs up to (f, false)).toNat (f, false), 0) := by
    unfold pathE; rw [if_pos ⟨ho, hup⟩, if_pos ⟨hnf, hnt⟩]
  have hlo := hD.low (f, false)
  have hf' := hf
  unfold inN at hf'
  have hget : (dL p.ns.length l p.cs up to false p.ns.length).getD f.toNat 0 = dS p.ns.length l p.cs up to (f, false) := by
    rw [dL_get (by omega), show ((f.toNat : Nat) : Int) = f by omega]
  have hlen := dL_len p.ns.length l p.cs up to false p.ns.length
  have h16 := (valid_of hv).n16
  rw [ed] at h4
  rw [ep] at h5
  simp only at h4
  by_cases h0 : dS p.ns.length l p.cs up to (f, false) = -1
  · rw [if_pos h0] at h5
    simp only at h5
    refine callK_ro (h4) ?_ ?_
    · simp only [↓EVP0, EVQ0, EVQ1, EVQ2, EVQ3, EVQ4, EVA, EVK, EVF, ↓reduceIte, Nat.reduceEqDiff, Nat.reduceAdd, Nat.reduceSub, Nat.reduceMul, Nat.reduceLT, Nat.reduceLeDiff, reduceCtorEq, Int.reduceToNat, Int.reduceLT, Int.reduceLE, Int.reduceAdd, Int.reduceSub, Int.reduceMul, Int.reduceNeg, Int.reduceEq, Nat.reduceMod, forall_eq_or_imp, forall_eq, forall_const, cond_true, cond_false, decide_true, decide_false, true_imp_iff, implies_true, Int.cast_ofNat_Int, forall_eq']
    simp only [↓EVP0, EVQ0, EVQ1, EVQ2, EVQ3, EVQ4, EVA, EVK, EVF, ↓reduceIte, Nat.reduceEqDiff, Nat.reduceAdd, Nat.reduceSub, Nat.reduceMul, Nat.reduceLT, Nat.reduceLeDiff, reduceCtorEq, Int.reduceToNat, Int.reduceLT, Int.reduceLE, Int.reduceAdd, Int.reduceSub, Int.reduceMul, Int.reduceNeg, Int.reduceEq, Nat.reduceMod, forall_eq_or_imp, forall_eq, forall_const, cond_true, cond_false, decide_true, decide_false, true_imp_iff, implies_true, Int.cast_ofNat_Int, forall_eq']
    refine callK_ro (h5) ?_ ?_
    · simp only [↓EVP0, EVQ0, EVQ1, EVQ2, EVQ3, EVQ4, EVA, EVK, EVF, ↓reduceIte, Nat.reduceEqDiff, Nat.reduceAdd, Nat.reduceSub, Nat.reduceMul, Nat.reduceLT, Nat.reduceLeDiff, reduceCtorEq, Int.reduceToNat, Int.reduceLT, Int.reduceLE, Int.reduceAdd, Int.reduceSub, Int.reduceMul, Int.reduceNeg, Int.reduceEq, Nat.reduceMod, forall_eq_or_imp, forall_eq, forall_const, cond_true, cond_false, decide_true, decide_false, true_imp_iff, implies_true, Int.cast_ofNat_Int, forall_eq']
    simp only [↓EVP0, EVQ0, EVQ1, EVQ2, EVQ3, EVQ4, EVA, EVK, EVF, ↓reduceIte, Nat.reduceEqDiff, Nat.reduceAdd, Nat.reduceSub, Nat.reduceMul, Nat.reduceLT, Nat.reduceLeDiff, reduceCtorEq, Int.reduceToNat, Int.reduceLT, Int.reduceLE, Int.reduceAdd, Int.reduceSub, Int.reduceMul, Int.reduceNeg, Int.reduceEq, Nat.reduceMod, forall_eq_or_imp, forall_eq, forall_const, cond_true, cond_false, decide_true, decide_false, true_imp_iff, implies_true, Int.cast_ofNat_Int, forall_eq']
    simp only [hlen, hget, h0]
    simp only [↓EVP0, EVQ0, EVQ1, EVQ2, EVQ3, EVQ4, EVA, EVK, EVF, ↓reduceIte, Nat.reduceEqDiff, Nat.reduceAdd, Nat.reduceSub, Nat.reduceMul, Nat.reduceLT, Nat.reduceLeDiff, reduceCtorEq, Int.reduceToNat, Int.reduceLT, Int.reduceLE, Int.reduceAdd, Int.reduceSub, Int.reduceMul, Int.reduceNeg, Int.reduceEq, Nat.reduceMod, forall_eq_or_imp, forall_eq, forall_const, cond_true, cond_false, decide_true, decide_false, true_imp_iff, implies_true, Int.cast_ofNat_Int, forall_eq']
    exact ⟨by omega, by omega⟩
  · rw [if_neg h0] at h5
    simp only at h5
    obtain ⟨ns, hc⟩ := chs_ok hv hO.len ht hD (dS p.ns.length l p.cs up to (f, false)).toNat (f, false) none (by omega) (fun _ _ _ _ _ _ => by simp)
    have hnd := nodes_cho (s := (f, false)) hv hnf hc
    generalize chs l p.cs up (dS p.ns.length l p.cs up to) (dS p.ns.length l p.cs up to (f, false)).toNat (f, false) = path at *
    have hpl : path.length ≤ 1000 := by have := hc.len.2; omega
    have h6' := h6 path hpl
    have h7' := h7 path hpl
    have hleg : legalE p l f path = true := by
      unfold legalE
      rw [ho, hnd]
      have hl1 := hc.lvs
      have hl2 := hc.leg
      have hl3 := hD.lvl (f, false) (by omega)
      simp only at hl3 hl2
      show (true && (decide ((0 : Int) = 0) && (lvs l (f :: ns) && _))) = true
      rw [hl2]
      unfold lvs at hl1 ⊢
      rw [List.all_cons, hl1, decide_eq_true hl3]; rfl
    simp only at hnd
    rw [hnd] at h6'
    rw [hleg] at h7'
    refine callK_ro (h4) ?_ ?_
    · simp only [↓EVP0, EVQ0, EVQ1, EVQ2, EVQ3, EVQ4, EVA, EVK, EVF, ↓reduceIte, Nat.reduceEqDiff, Nat.reduceAdd, Nat.reduceSub, Nat.reduceMul, Nat.reduceLT, Nat.reduceLeDiff, reduceCtorEq, Int.reduceToNat, Int.reduceLT, Int.reduceLE, Int.reduceAdd, Int.reduceSub, Int.reduceMul, Int.reduceNeg, Int.reduceEq, Nat.reduceMod, forall_eq_or_imp, forall_eq, forall_const, cond_true, cond_false, decide_true, decide_false, true_imp_iff, implies_true, Int.cast_ofNat_Int, forall_eq']
    simp only [↓EVP0, EVQ0, EVQ1, EVQ2, EVQ3, EVQ4, EVA, EVK, EVF, ↓reduceIte, Nat.reduceEqDiff, Nat.reduceAdd, Nat.reduceSub, Nat.reduceMul, Nat.reduceLT, Nat.reduceLeDiff, reduceCtorEq, Int.reduceToNat, Int.reduceLT, Int.reduceLE, Int.reduceAdd, Int.reduceSub, Int.reduceMul, Int.reduceNeg, Int.reduceEq, Nat.reduceMod, forall_eq_or_imp, forall_eq, forall_const, cond_true, cond_false, decide_true, decide_false, true_imp_iff, implies_true, Int.cast_ofNat_Int, forall_eq']
    refine callK_ro (h5) ?_ ?_
    · simp only [↓EVP0, EVQ0, EVQ1, EVQ2, EVQ3, EVQ4, EVA, EVK, EVF, ↓reduceIte, Nat.reduceEqDiff, Nat.reduceAdd, Nat.reduceSub, Nat.reduceMul, Nat.reduceLT, Nat.reduceLeDiff, reduceCtorEq, Int.reduceToNat, Int.reduceLT, Int.reduceLE, Int.reduceAdd, Int.reduceSub, Int.reduceMul, Int.reduceNeg, Int.reduceEq, Nat.reduceMod, forall_eq_or_imp, forall_eq, forall_const, cond_true, cond_false, decide_true, decide_false, true_imp_iff, implies_true, Int.cast_ofNat_Int, forall_eq']
    simp only [↓EVP0, EVQ0, EVQ1, EVQ2, EVQ3, EVQ4, EVA, EVK, EVF, ↓reduceIte, Nat.reduceEqDiff, Nat.reduceAdd, Nat.reduceSub, Nat.reduceMul, Nat.reduceLT, Nat.reduceLeDiff, reduceCtorEq, Int.reduceToNat, Int.reduceLT, Int.reduceLE, Int.reduceAdd, Int.reduceSub, Int.reduceMul, Int.reduceNeg, Int.reduceEq, Nat.reduceMod, forall_eq_or_imp, forall_eq, forall_const, cond_true, cond_false, decide_true, decide_false, true_imp_iff, implies_true, Int.cast_ofNat_Int, forall_eq']
    simp only [hlen, hget]
    simp only [↓EVP0, EVQ0, EVQ1, EVQ2, EVQ3, EVQ4, EVA, EVK, EVF, ↓reduceIte, Nat.reduceEqDiff, Nat.reduceAdd, Nat.reduceSub, Nat.reduceMul, Nat.reduceLT, Nat.reduceLeDiff, reduceCtorEq, Int.reduceToNat, Int.reduceLT, Int.reduceLE, Int.reduceAdd, Int.reduceSub, Int.reduceMul, Int.reduceNeg, Int.reduceEq, Nat.reduceMod, forall_eq_or_imp, forall_eq, forall_const, cond_true, cond_false, decide_true, decide_false, true_imp_iff, implies_true, Int.cast_ofNat_Int, forall_eq']
    refine ⟨⟨by omega, by omega⟩, fun h => ?_, fun _ => ?_⟩
    · have := of_decide_eq_true h; omega
    refine callK_ro (h6') ?_ ?_
    · simp only [↓EVP0, EVQ0, EVQ1, EVQ2, EVQ3, EVQ4, EVA, EVK, EVF, ↓reduceIte, Nat.reduceEqDiff, Nat.reduceAdd, Nat.reduceSub, Nat.reduceMul, Nat.reduceLT, Nat.reduceLeDiff, reduceCtorEq, Int.reduceToNat, Int.reduceLT, Int.reduceLE, Int.reduceAdd, Int.reduceSub, Int.reduceMul, Int.reduceNeg, Int.reduceEq, Nat.reduceMod, forall_eq_or_imp, forall_eq, forall_const, cond_true, cond_false, decide_true, decide_false, true_imp_iff, implies_true, Int.cast_ofNat_Int, forall_eq']
    simp only [↓EVP0, EVQ0, EVQ1, EVQ2, EVQ3, EVQ4, EVA, EVK, EVF, ↓reduceIte, Nat.reduceEqDiff, Nat.reduceAdd, Nat.reduceSub, Nat.reduceMul, Nat.reduceLT, Nat.reduceLeDiff, reduceCtorEq, Int.reduceToNat, Int.reduceLT, Int.reduceLE, Int.reduceAdd, Int.reduceSub, Int.reduceMul, Int.reduceNeg, Int.reduceEq, Nat.reduceMod, forall_eq_or_imp, forall_eq, forall_const, cond_true, cond_false, decide_true, decide_false, true_imp_iff, implies_true, Int.cast_ofNat_Int, forall_eq']
    have hn1 := hc.len.1
    have hn2 := hc.len.2
    rw [hlen]
    refine ⟨⟨by omega, by omega⟩, fun _ => by unfold In64; omega, fun _ => by unfold In64; omega, fun _ => ⟨by omega, by omega⟩, ?_⟩
    (refine lops_ge_imp ?_; simp only [↓EVP0, EVQ0, EVQ1, EVQ2, EVQ3, EVQ4, EVA, EVK, EVF, ↓reduceIte, Nat.reduceEqDiff, Nat.reduceAdd, Nat.reduceSub, Nat.reduceMul, Nat.reduceLT, Nat.reduceLeDiff, reduceCtorEq, Int.reduceToNat, Int.reduceLT, Int.reduceLE, Int.reduceAdd, Int.reduceSub, Int.reduceMul, Int.reduceNeg, Int.reduceEq, Nat.reduceMod, forall_eq_or_imp, forall_eq, forall_const, cond_true, cond_false, decide_true, decide_false, true_imp_iff, implies_true, Int.cast_ofNat_Int, forall_eq'])
    refine gCallK_ro _ (fun _ => h7') (fun _ => ?_) ?_
    · simp only [↓EVP0, EVQ0, EVQ1, EVQ2, EVQ3, EVQ4, EVA, EVK, EVF, ↓reduceIte, Nat.reduceEqDiff, Nat.reduceAdd, Nat.reduceSub, Nat.reduceMul, Nat.reduceLT, Nat.reduceLeDiff, reduceCtorEq, Int.reduceToNat, Int.reduceLT, Int.reduceLE, Int.reduceAdd, Int.reduceSub, Int.reduceMul, Int.reduceNeg, Int.reduceEq, Nat.reduceMod, forall_eq_or_imp, forall_eq, forall_const, cond_true, cond_false, decide_true, decide_false, true_imp_iff, implies_true, Int.cast_ofNat_Int, forall_eq']
    simp only [↓EVP0, EVQ0, EVQ1, EVQ2, EVQ3, EVQ4, EVA, EVK, EVF, ↓reduceIte, Nat.reduceEqDiff, Nat.reduceAdd, Nat.reduceSub, Nat.reduceMul, Nat.reduceLT, Nat.reduceLeDiff, reduceCtorEq, Int.reduceToNat, Int.reduceLT, Int.reduceLE, Int.reduceAdd, Int.reduceSub, Int.reduceMul, Int.reduceNeg, Int.reduceEq, Nat.reduceMod, forall_eq_or_imp, forall_eq, forall_const, cond_true, cond_false, decide_true, decide_false, true_imp_iff, implies_true, Int.cast_ofNat_Int, forall_eq']
    rw [hget]
    have hlast := hc.last
    simp only at hlast
    have e1 : (path.length : Int) = dS p.ns.length l p.cs up to (f, false) := by omega
    have e2 : (ns.length : Int) + 1 = (path.length : Int) + 1 := by omega
    have e3 : (f :: ns).getD ((ns.length : Int) + 1 - 1).toNat 0 = to := by
      rw [show ((ns.length : Int) + 1 - 1).toNat = (dS p.ns.length l p.cs up to (f, false)).toNat by omega]; exact hlast
    rw [decide_eq_true e1, decide_eq_true e2, decide_eq_true e3]
    refine ⟨fun h => by simp at h, fun _ => ?_⟩
    intro _
    refine lwp_for (α := Unit) path.length (fun i _ => True) (fun i _ => [(2, .rsl 1 up.length (boolsF up)), (127, .rsl 1 path.length (intsF path)), (128, .sc (.int .i64 path.length)), (129, .sc (.int .i64 i))])
      (fun _ _ => []) () trivial ?_ (fun _ _ => Nat.zero_le _) ?_
    · simp only [↓EVP0, EVQ0, EVQ1, EVQ2, EVQ3, EVQ4, EVA, EVK, EVF, ↓reduceIte, Nat.reduceEqDiff, Nat.reduceAdd, Nat.reduceSub, Nat.reduceMul, Nat.reduceLT, Nat.reduceLeDiff, reduceCtorEq, Int.reduceToNat, Int.reduceLT, Int.reduceLE, Int.reduceAdd, Int.reduceSub, Int.reduceMul, Int.reduceNeg, Int.reduceEq, Nat.reduceMod, forall_eq_or_imp, forall_eq, forall_const, cond_true, cond_false, decide_true, decide_false, true_imp_iff, implies_true, Int.cast_ofNat_Int, forall_eq']
    intro i _ hi _
    unfold lb7_0
    simp only [↓EVP0, EVQ0, EVQ1, EVQ2, EVQ3, EVQ4, EVA, EVK, EVF, ↓reduceIte, Nat.reduceEqDiff, Nat.reduceAdd, Nat.reduceSub, Nat.reduceMul, Nat.reduceLT, Nat.reduceLeDiff, reduceCtorEq, Int.reduceToNat, Int.reduceLT, Int.reduceLE, Int.reduceAdd, Int.reduceSub, Int.reduceMul, Int.reduceNeg, Int.reduceEq, Nat.reduceMod, forall_eq_or_imp, forall_eq, forall_const, cond_true, cond_false, decide_true, decide_false, true_imp_iff, implies_true, Int.cast_ofNat_Int, forall_eq']
    refine ⟨fun hg => ?_, fun hg => ?_⟩
    · have hi2 : i < path.length := by have := of_decide_eq_true hg; omega
      have hm := getD_mem 0 hi2
      have hcab := List.all_eq_true.1 hc.cab _ hm
      have hup2 := hc.up _ hm
      unfold cabB at hcab
      simp only [Bool.and_eq_true, decide_eq_true_eq] at hcab
      generalize path.getD i 0 = c at *
      refine ⟨⟨by omega, by omega⟩, ⟨by omega, by omega⟩, fun h => ?_, fun h => ⟨by unfold In64; omega, hi2, (), trivial⟩⟩
      rw [hup2] at h; simp at h
    · trivial
end Go.Proofs.Ytibpkgopbecfoaa
namespace Go.Proofs.Ytibpkgopbecfoaa
set_option linter.unusedSimpArgs false
set_option linter.unusedVariables false
open Go.RowKit
set_option maxRecDepth 20000

theorem up_edg {p : Pl} {l : List Int} {up : List Bool} (ho : ordB p l = true) {s t : St} {i : Nat} (hi : i < p.cs.length) (h : EdgJ l p.cs up i s t) : upE p l (i : Int) s.1 = (aboveB l t.1 s.1, 0) := by
  obtain ⟨v1, v2, _⟩ := edg_lvl h
  unfold lvl at v1 v2
  unfold upE
  rw [ho, decide_eq_false (show ¬ (i : Int) < 0 by omega), decide_eq_false (show ¬ (p.cs.length : Int) ≤ i by omega), Int.toNat_natCast]
  have h2 := h.2.1
  generalize p.cs.getD i default = c at *
  simp only [Bool.not_true, cond_false]
  rcases h2 with ⟨a1, a2⟩ | ⟨a1, a2⟩
  · rw [a1] at v1
    rw [a2] at v2
    rw [a1, a2, decide_eq_true (rfl : c.a = c.a), decide_eq_false (show ¬ l.getD c.a.toNat 0 < 0 by omega), decide_eq_false (show ¬ l.getD c.b.toNat 0 < 0 by omega), show c.a + c.b - c.a = c.b by omega]; rfl
  · rw [a1] at v1
    rw [a2] at v2
    rw [a1, a2, decide_eq_true (rfl : c.b = c.b), decide_eq_false (show ¬ l.getD c.a.toNat 0 < 0 by omega), decide_eq_false (show ¬ l.getD c.b.toNat 0 < 0 by omega), show c.a + c.b - c.b = c.a by omega]
    cases decide (c.b = c.a) <;> rfl
theorem ev_lawRest (p : Pl) (hp : PlOk p) (l : List Int) (up : List Bool) (f to : Int) : Ev Try.prog 11 [plV p, .agg [intsV l], boolsV up, .sc (.int .i64 f), .sc (.int .i64 to)] (.sc (.bool true)) := by
  have h1 := ev_awake18
  have h2 := ev_fit p l up
  have h3 := ev_nodeL p
  have h4 := ev_Dist p hp l up to
  have h5 := ev_path p hp l up f to
  have h6 := ev_nodes p hp f
  have h7 := ev_upward p hp l
  unfold plV boolsV intsV at *
  refine ev_fn Try.func11 comp11 (show 5 ≤ Try.f11.ntmps by decide) ?_; unfold cf11 rf11; simp only [↓EVP0, EVQ0, EVQ1, EVQ2, EVQ3, EVQ4, EVA, EVK, EVF, ↓reduceIte, Nat.reduceEqDiff, Nat.reduceAdd, Nat.reduceSub, Nat.reduceMul, Nat.reduceLT, Nat.reduceLeDiff, reduceCtorEq, Int.reduceToNat, Int.reduceLT, Int.reduceLE, Int.reduceAdd, Int.reduceSub, Int.reduceMul, Int.reduceNeg, Int.reduceEq, Nat.reduceMod, forall_eq_or_imp, forall_eq, forall_const, cond_true, cond_false, decide_true, decide_false, true_imp_iff, implies_true, Int.cast_ofNat_Int, forall_eq']
  refine callK_ro (h1) ?_ ?_
  · simp only [↓EVP0, EVQ0, EVQ1, EVQ2, EVQ3, EVQ4, EVA, EVK, EVF, ↓reduceIte, Nat.reduceEqDiff, Nat.reduceAdd, Nat.reduceSub, Nat.reduceMul, Nat.reduceLT, Nat.reduceLeDiff, reduceCtorEq, Int.reduceToNat, Int.reduceLT, Int.reduceLE, Int.reduceAdd, Int.reduceSub, Int.reduceMul, Int.reduceNeg, Int.reduceEq, Nat.reduceMod, forall_eq_or_imp, forall_eq, forall_const, cond_true, cond_false, decide_true, decide_false, true_imp_iff, implies_true, Int.cast_ofNat_Int, forall_eq']
  simp only [↓EVP0, EVQ0, EVQ1, EVQ2, EVQ3, EVQ4, EVA, EVK, EVF, ↓reduceIte, Nat.reduceEqDiff, Nat.reduceAdd, Nat.reduceSub, Nat.reduceMul, Nat.reduceLT, Nat.reduceLeDiff, reduceCtorEq, Int.reduceToNat, Int.reduceLT, Int.reduceLE, Int.reduceAdd, Int.reduceSub, Int.reduceMul, Int.reduceNeg, Int.reduceEq, Nat.reduceMod, forall_eq_or_imp, forall_eq, forall_const, cond_true, cond_false, decide_true, decide_false, true_imp_iff, implies_true, Int.cast_ofNat_Int, forall_eq']
  refine callK_ro (h2) ?_ ?_
  · simp only [↓EVP0, EVQ0, EVQ1, EVQ2, EVQ3, EVQ4, EVA, EVK, EVF, ↓reduceIte, Nat.reduceEqDiff, Nat.reduceAdd, Nat.reduceSub, Nat.reduceMul, Nat.reduceLT, Nat.reduceLeDiff, reduceCtorEq, Int.reduceToNat, Int.reduceLT, Int.reduceLE, Int.reduceAdd, Int.reduceSub, Int.reduceMul, Int.reduceNeg, Int.reduceEq, Nat.reduceMod, forall_eq_or_imp, forall_eq, forall_const, cond_true, cond_false, decide_true, decide_false, true_imp_iff, implies_true, Int.cast_ofNat_Int, forall_eq']
  simp only [↓EVP0, EVQ0, EVQ1, EVQ2, EVQ3, EVQ4, EVA, EVK, EVF, ↓reduceIte, Nat.reduceEqDiff, Nat.reduceAdd, Nat.reduceSub, Nat.reduceMul, Nat.reduceLT, Nat.reduceLeDiff, reduceCtorEq, Int.reduceToNat, Int.reduceLT, Int.reduceLE, Int.reduceAdd, Int.reduceSub, Int.reduceMul, Int.reduceNeg, Int.reduceEq, Nat.reduceMod, forall_eq_or_imp, forall_eq, forall_const, cond_true, cond_false, decide_true, decide_false, true_imp_iff, implies_true, Int.cast_ofNat_Int, forall_eq']
  (refine lops_ge_imp ?_; simp only [↓EVP0, EVQ0, EVQ1, EVQ2, EVQ3, EVQ4, EVA, EVK, EVF, ↓reduceIte, Nat.reduceEqDiff, Nat.reduceAdd, Nat.reduceSub, Nat.reduceMul, Nat.reduceLT, Nat.reduceLeDiff, reduceCtorEq, Int.reduceToNat, Int.reduceLT, Int.reduceLE, Int.reduceAdd, Int.reduceSub, Int.reduceMul, Int.reduceNeg, Int.reduceEq, Nat.reduceMod, forall_eq_or_imp, forall_eq, forall_const, cond_true, cond_false, decide_true, decide_false, true_imp_iff, implies_true, Int.cast_ofNat_Int, forall_eq'])
  refine gCallK_ro _ (fun _ => h3 f) (fun _ => ?_) ?_
  · simp only [↓EVP0, EVQ0, EVQ1, EVQ2, EVQ3, EVQ4, EVA, EVK, EVF, ↓reduceIte, Nat.reduceEqDiff, Nat.reduceAdd, Nat.reduceSub, Nat.reduceMul, Nat.reduceLT, Nat.reduceLeDiff, reduceCtorEq, Int.reduceToNat, Int.reduceLT, Int.reduceLE, Int.reduceAdd, Int.reduceSub, Int.reduceMul, Int.reduceNeg, Int.reduceEq, Nat.reduceMod, forall_eq_or_imp, forall_eq, forall_const, cond_true, cond_false, decide_true, decide_false, true_imp_iff, implies_true, Int.cast_ofNat_Int, forall_eq']
  simp only [↓EVP0, EVQ0, EVQ1, EVQ2, EVQ3, EVQ4, EVA, EVK, EVF, ↓reduceIte, Nat.reduceEqDiff, Nat.reduceAdd, Nat.reduceSub, Nat.reduceMul, Nat.reduceLT, Nat.reduceLeDiff, reduceCtorEq, Int.reduceToNat, Int.reduceLT, Int.reduceLE, Int.reduceAdd, Int.reduceSub, Int.reduceMul, Int.reduceNeg, Int.reduceEq, Nat.reduceMod, forall_eq_or_imp, forall_eq, forall_const, cond_true, cond_false, decide_true, decide_false, true_imp_iff, implies_true, Int.cast_ofNat_Int, forall_eq']
  (refine lops_ge_imp ?_; simp only [↓EVP0, EVQ0, EVQ1, EVQ2, EVQ3, EVQ4, EVA, EVK, EVF, ↓reduceIte, Nat.reduceEqDiff, Nat.reduceAdd, Nat.reduceSub, Nat.reduceMul, Nat.reduceLT, Nat.reduceLeDiff, reduceCtorEq, Int.reduceToNat, Int.reduceLT, Int.reduceLE, Int.reduceAdd, Int.reduceSub, Int.reduceMul, Int.reduceNeg, Int.reduceEq, Nat.reduceMod, forall_eq_or_imp, forall_eq, forall_const, cond_true, cond_false, decide_true, decide_false, true_imp_iff, implies_true, Int.cast_ofNat_Int, forall_eq'])
  refine gCallK_ro _ (fun _ => h3 to) (fun _ => ?_) ?_
  · simp only [↓EVP0, EVQ0, EVQ1, EVQ2, EVQ3, EVQ4, EVA, EVK, EVF, ↓reduceIte, Nat.reduceEqDiff, Nat.reduceAdd, Nat.reduceSub, Nat.reduceMul, Nat.reduceLT, Nat.reduceLeDiff, reduceCtorEq, Int.reduceToNat, Int.reduceLT, Int.reduceLE, Int.reduceAdd, Int.reduceSub, Int.reduceMul, Int.reduceNeg, Int.reduceEq, Nat.reduceMod, forall_eq_or_imp, forall_eq, forall_const, cond_true, cond_false, decide_true, decide_false, true_imp_iff, implies_true, Int.cast_ofNat_Int, forall_eq']
  simp only [↓EVP0, EVQ0, EVQ1, EVQ2, EVQ3, EVQ4, EVA, EVK, EVF, ↓reduceIte, Nat.reduceEqDiff, Nat.reduceAdd, Nat.reduceSub, Nat.reduceMul, Nat.reduceLT, Nat.reduceLeDiff, reduceCtorEq, Int.reduceToNat, Int.reduceLT, Int.reduceLE, Int.reduceAdd, Int.reduceSub, Int.reduceMul, Int.reduceNeg, Int.reduceEq, Nat.reduceMod, forall_eq_or_imp, forall_eq, forall_const, cond_true, cond_false, decide_true, decide_false, true_imp_iff, implies_true, Int.cast_ofNat_Int, forall_eq']
  have ec : (bif bif !fitB p l up then true else !nodB p f then true else !nodB p to) = !decide (fitB p l up = true ∧ nodB p f = true ∧ nodB p to = true) := by
    cases fitB p l up <;> cases nodB p f <;> cases nodB p to <;> rfl
  rw [ec]
  refine ⟨fun _ => trivial, fun h => ?_⟩
  have hh : fitB p l up = true ∧ nodB p f = true ∧ nodB p to = true := by simpa using h
  obtain ⟨hfit, hnf, hnt⟩ := hh
  obtain ⟨hv, hup, ho⟩ := fit_of hfit
  have hO := ord_of ho
  have hf := nodB_in hnf
  have ht := nodB_in hnt
  have hD := d_facts (l := l) (cs := p.cs) (up := up) (show p.ns.length ≤ 100 by have := (valid_of hv).n16; omega) (valid_of hv).cab ht
  have ed : distE p l up to = ((dL p.ns.length l p.cs up to false p.ns.length, dL p.ns.length l p.cs up to true p.ns.length), 0) := by
    unfold distE; rw [if_pos ⟨ho, hup⟩, if_pos hnt]
  have ep : pathE p l up f to = if dS p.ns.length l p.cs up to (f, false) = -1 then ([], 12) else (chs l p.cs up (dS p.ns.length l p.cs up to) (dS p.ns.length l p.cs up to (f, false)).toNat (f, false), 0) := by
    unfold pathE; rw [if_pos ⟨ho, hup⟩, if_pos ⟨hnf, hnt⟩]
  have hlo := hD.low (f, false)
  have hget : ∀ b x, inN p.ns.length x → (dL p.ns.length l p.cs up to b p.ns.length).getD x.toNat 0 = dS p.ns.length l p.cs up to (x, b) := by
    intro b x hx
    unfold inN at hx
    rw [dL_get (by omega), show ((x.toNat : Nat) : Int) = x by omega]
  have hlen := fun b => dL_len p.ns.length l p.cs up to b p.ns.length
  have h16 := (valid_of hv).n16
  rw [ed] at h4
  rw [ep] at h5
  simp only at h4
  by_cases h0 : dS p.ns.length l p.cs up to (f, false) = -1
  · rw [if_pos h0] at h5
    simp only at h5
    refine callK_ro (h5) ?_ ?_
    · simp only [↓EVP0, EVQ0, EVQ1, EVQ2, EVQ3, EVQ4, EVA, EVK, EVF, ↓reduceIte, Nat.reduceEqDiff, Nat.reduceAdd, Nat.reduceSub, Nat.reduceMul, Nat.reduceLT, Nat.reduceLeDiff, reduceCtorEq, Int.reduceToNat, Int.reduceLT, Int.reduceLE, Int.reduceAdd, Int.reduceSub, Int.reduceMul, Int.reduceNeg, Int.reduceEq, Nat.reduceMod, forall_eq_or_imp, forall_eq, forall_const, cond_true, cond_false, decide_true, decide_false, true_imp_iff, implies_true, Int.cast_ofNat_Int, forall_eq']
    simp only [↓EVP0, EVQ0, EVQ1, EVQ2, EVQ3, EVQ4, EVA, EVK, EVF, ↓reduceIte, Nat.reduceEqDiff, Nat.reduceAdd, Nat.reduceSub, Nat.reduceMul, Nat.reduceLT, Nat.reduceLeDiff, reduceCtorEq, Int.reduceToNat, Int.reduceLT, Int.reduceLE, Int.reduceAdd, Int.reduceSub, Int.reduceMul, Int.reduceNeg, Int.reduceEq, Nat.reduceMod, forall_eq_or_imp, forall_eq, forall_const, cond_true, cond_false, decide_true, decide_false, true_imp_iff, implies_true, Int.cast_ofNat_Int, forall_eq']
  rw [if_neg h0] at h5
  simp only at h5
  have hfst := fun s left a b => fst_some hv hO.len ht hD (s := s) (left := left) a b
  obtain ⟨ns, hc⟩ := chs_ok hv hO.len ht hD (dS p.ns.length l p.cs up to (f, false)).toNat (f, false) none (by omega) (fun _ _ _ _ _ _ => by simp)
  have hnd := nodes_cho (s := (f, false)) hv hnf hc
  obtain ⟨K, hK⟩ : ∃ K : Nat, (dS p.ns.length l p.cs up to (f, false)).toNat = K := ⟨_, rfl⟩
  have hpe : ∃ path, path = chs l p.cs up (dS p.ns.length l p.cs up to) (dS p.ns.length l p.cs up to (f, false)).toNat (f, false) := ⟨_, rfl⟩
  obtain ⟨path, hpath⟩ := hpe
  rw [← hpath] at hc hnd h5
  have hn1 := hc.len.1
  have hn2 := hc.len.2
  rw [hK] at hn1 hn2 hpath
  obtain ⟨hw1, hw2⟩ := wlk_get hc.walk
  have h6' := h6 path (by omega)
  simp only at hnd hw2
  rw [hnd] at h6'
  have hRf := hget false
  have hRt := hget true
  have hL1 := hlen false
  have hL2 := hlen true
  generalize dL p.ns.length l p.cs up to false p.ns.length = RR at *
  generalize dL p.ns.length l p.cs up to true p.ns.length = FF at *
  refine callK_ro (h5) ?_ ?_
  · simp only [↓EVP0, EVQ0, EVQ1, EVQ2, EVQ3, EVQ4, EVA, EVK, EVF, ↓reduceIte, Nat.reduceEqDiff, Nat.reduceAdd, Nat.reduceSub, Nat.reduceMul, Nat.reduceLT, Nat.reduceLeDiff, reduceCtorEq, Int.reduceToNat, Int.reduceLT, Int.reduceLE, Int.reduceAdd, Int.reduceSub, Int.reduceMul, Int.reduceNeg, Int.reduceEq, Nat.reduceMod, forall_eq_or_imp, forall_eq, forall_const, cond_true, cond_false, decide_true, decide_false, true_imp_iff, implies_true, Int.cast_ofNat_Int, forall_eq']
  simp only [↓EVP0, EVQ0, EVQ1, EVQ2, EVQ3, EVQ4, EVA, EVK, EVF, ↓reduceIte, Nat.reduceEqDiff, Nat.reduceAdd, Nat.reduceSub, Nat.reduceMul, Nat.reduceLT, Nat.reduceLeDiff, reduceCtorEq, Int.reduceToNat, Int.reduceLT, Int.reduceLE, Int.reduceAdd, Int.reduceSub, Int.reduceMul, Int.reduceNeg, Int.reduceEq, Nat.reduceMod, forall_eq_or_imp, forall_eq, forall_const, cond_true, cond_false, decide_true, decide_false, true_imp_iff, implies_true, Int.cast_ofNat_Int, forall_eq']
  refine callK_ro (h4) ?_ ?_
  · simp only [↓EVP0, EVQ0, EVQ1, EVQ2, EVQ3, EVQ4, EVA, EVK, EVF, ↓reduceIte, Nat.reduceEqDiff, Nat.reduceAdd, Nat.reduceSub, Nat.reduceMul, Nat.reduceLT, Nat.reduceLeDiff, reduceCtorEq, Int.reduceToNat, Int.reduceLT, Int.reduceLE, Int.reduceAdd, Int.reduceSub, Int.reduceMul, Int.reduceNeg, Int.reduceEq, Nat.reduceMod, forall_eq_or_imp, forall_eq, forall_const, cond_true, cond_false, decide_true, decide_false, true_imp_iff, implies_true, Int.cast_ofNat_Int, forall_eq']
  simp only [↓EVP0, EVQ0, EVQ1, EVQ2, EVQ3, EVQ4, EVA, EVK, EVF, ↓reduceIte, Nat.reduceEqDiff, Nat.reduceAdd, Nat.reduceSub, Nat.reduceMul, Nat.reduceLT, Nat.reduceLeDiff, reduceCtorEq, Int.reduceToNat, Int.reduceLT, Int.reduceLE, Int.reduceAdd, Int.reduceSub, Int.reduceMul, Int.reduceNeg, Int.reduceEq, Nat.reduceMod, forall_eq_or_imp, forall_eq, forall_const, cond_true, cond_false, decide_true, decide_false, true_imp_iff, implies_true, Int.cast_ofNat_Int, forall_eq']
  refine callK_ro (h6') ?_ ?_
  · simp only [↓EVP0, EVQ0, EVQ1, EVQ2, EVQ3, EVQ4, EVA, EVK, EVF, ↓reduceIte, Nat.reduceEqDiff, Nat.reduceAdd, Nat.reduceSub, Nat.reduceMul, Nat.reduceLT, Nat.reduceLeDiff, reduceCtorEq, Int.reduceToNat, Int.reduceLT, Int.reduceLE, Int.reduceAdd, Int.reduceSub, Int.reduceMul, Int.reduceNeg, Int.reduceEq, Nat.reduceMod, forall_eq_or_imp, forall_eq, forall_const, cond_true, cond_false, decide_true, decide_false, true_imp_iff, implies_true, Int.cast_ofNat_Int, forall_eq']
  simp only [↓EVP0, EVQ0, EVQ1, EVQ2, EVQ3, EVQ4, EVA, EVK, EVF, ↓reduceIte, Nat.reduceEqDiff, Nat.reduceAdd, Nat.reduceSub, Nat.reduceMul, Nat.reduceLT, Nat.reduceLeDiff, reduceCtorEq, Int.reduceToNat, Int.reduceLT, Int.reduceLE, Int.reduceAdd, Int.reduceSub, Int.reduceMul, Int.reduceNeg, Int.reduceEq, Nat.reduceMod, forall_eq_or_imp, forall_eq, forall_const, cond_true, cond_false, decide_true, decide_false, true_imp_iff, implies_true, Int.cast_ofNat_Int, forall_eq']
  refine ⟨by unfold In64; omega, fun h => ?_, fun _ _ => ?_⟩
  · rw [decide_eq_true (show (ns.length : Int) + 1 = (path.length : Int) + 1 by omega), decide_eq_true (show (RR.length : Int) = p.ns.length by omega), decide_eq_true (show (FF.length : Int) = RR.length by omega)] at h
    simp at h
  have hD' := hD
  have hKD : dS p.ns.length l p.cs up to (f, false) = K := by omega
  generalize dS p.ns.length l p.cs up to = D at *
  refine lwp_for (α := St) path.length (fun i s => D s = ((K - i : Nat) : Int) ∧ path.drop i = chs l p.cs up D (K - i) s ∧ (f :: ns).getD i 0 = s.1) (fun i s => [(5, .ptr 0 0 0 0 0), (6, .ptr 1 0 0 0 0), (11, .rsl 1 path.length (intsF path)), (13, .rsl 1 RR.length (intsF RR)), (14, .rsl 1 FF.length (intsF FF)), (16, .rsl 1 (ns.length + 1) (intsF (f :: ns))), (18, .sc (.bool s.2)), (99, .rsl 1 path.length (intsF path)), (100, .sc (.int .i64 path.length)), (101, .sc (.int .i64 i))])
    (fun _ _ => [(0, .box [.rsl 3 p.ns.length (ndsF p.ns), .rsl 6 p.cs.length (cbsF p.cs)]), (0, .box [.rsl 1 l.length (intsF l)])]) (f, false) ⟨hKD, hpath, rfl⟩ ?_ (fun _ _ => Nat.zero_le _) ?_
  · simp only [↓EVP0, EVQ0, EVQ1, EVQ2, EVQ3, EVQ4, EVA, EVK, EVF, ↓reduceIte, Nat.reduceEqDiff, Nat.reduceAdd, Nat.reduceSub, Nat.reduceMul, Nat.reduceLT, Nat.reduceLeDiff, reduceCtorEq, Int.reduceToNat, Int.reduceLT, Int.reduceLE, Int.reduceAdd, Int.reduceSub, Int.reduceMul, Int.reduceNeg, Int.reduceEq, Nat.reduceMod, forall_eq_or_imp, forall_eq, forall_const, cond_true, cond_false, decide_true, decide_false, true_imp_iff, implies_true, Int.cast_ofNat_Int, forall_eq']
  rintro i s hi ⟨g1, g2, g3⟩
  unfold lb11_0
  simp only [↓EVP0, EVQ0, EVQ1, EVQ2, EVQ3, EVQ4, EVA, EVK, EVF, ↓reduceIte, Nat.reduceEqDiff, Nat.reduceAdd, Nat.reduceSub, Nat.reduceMul, Nat.reduceLT, Nat.reduceLeDiff, reduceCtorEq, Int.reduceToNat, Int.reduceLT, Int.reduceLE, Int.reduceAdd, Int.reduceSub, Int.reduceMul, Int.reduceNeg, Int.reduceEq, Nat.reduceMod, forall_eq_or_imp, forall_eq, forall_const, cond_true, cond_false, decide_true, decide_false, true_imp_iff, implies_true, Int.cast_ofNat_Int, forall_eq']
  refine ⟨fun hg => ?_, fun hg => trivial⟩
  have hi2 : i < path.length := by have := of_decide_eq_true hg; omega
  obtain ⟨k', hk'⟩ : ∃ k', K - i = k' + 1 := ⟨K - i - 1, by omega⟩
  rw [hk'] at g1 g2
  obtain ⟨c, t, q1, q2, q3, q4, _⟩ := hfst s _ g1 (by omega)
  have hch : chs l p.cs up D (k' + 1) s = (c : Int) :: chs l p.cs up D k' t := by simp only [chs]; rw [q1]
  rw [hch, drop_getD 0 hi2] at g2
  simp only [List.cons.injEq] at g2
  obtain ⟨g2, g4⟩ := g2
  have hup7 := h7 (c : Int) s.1
  rw [up_edg ho q2 q3] at hup7
  have hti := (edg_in (valid_of hv).cab q2 q3).2
  have hsi := (edg_in (valid_of hv).cab q2 q3).1
  have hnx : (f :: ns).getD (i + 1) 0 = t.1 := by
    have := (hw2 i hi2).2
    rw [this, g2, g3, Int.toNat_natCast, (edg_acr hv q2 q3).2]
  have e3 := q3.2.2.1
  have e4 := q3.2.2.2
  rw [g2]
  rw [g3]
  refine ⟨⟨by omega, by omega⟩, ⟨by omega, by omega⟩, ?_⟩
  first | refine qCallK_ro (hup7) ?_ ?_ | refine eCallK_ro (hup7) ?_ ?_
  · simp only [↓EVP0, EVQ0, EVQ1, EVQ2, EVQ3, EVQ4, EVA, EVK, EVF, ↓reduceIte, Nat.reduceEqDiff, Nat.reduceAdd, Nat.reduceSub, Nat.reduceMul, Nat.reduceLT, Nat.reduceLeDiff, reduceCtorEq, Int.reduceToNat, Int.reduceLT, Int.reduceLE, Int.reduceAdd, Int.reduceSub, Int.reduceMul, Int.reduceNeg, Int.reduceEq, Nat.reduceMod, forall_eq_or_imp, forall_eq, forall_const, cond_true, cond_false, decide_true, decide_false, true_imp_iff, implies_true, Int.cast_ofNat_Int, forall_eq']
  simp only [↓EVP0, EVQ0, EVQ1, EVQ2, EVQ3, EVQ4, EVA, EVK, EVF, ↓reduceIte, Nat.reduceEqDiff, Nat.reduceAdd, Nat.reduceSub, Nat.reduceMul, Nat.reduceLT, Nat.reduceLeDiff, reduceCtorEq, Int.reduceToNat, Int.reduceLT, Int.reduceLE, Int.reduceAdd, Int.reduceSub, Int.reduceMul, Int.reduceNeg, Int.reduceEq, Nat.reduceMod, forall_eq_or_imp, forall_eq, forall_const, cond_true, cond_false, decide_true, decide_false, true_imp_iff, implies_true, Int.cast_ofNat_Int, forall_eq']
  generalize aboveB l t.1 s.1 = u at *
  have hns : (bif u then s.2 else false) = false := by
    cases u
    · rfl
    · simpa using e4
  rw [hns]
  refine ⟨fun h => by simp at h, fun _ => ?_⟩
  rw [show ((i : Int) + 1).toNat = i + 1 by omega, hnx]
  have hti' := hti
  unfold inN at hti'
  have hdn : (bif s.2 then true else !u) = t.2 := by
    rw [e3]
    cases hs2 : s.2
    · rfl
    · rw [hs2] at e4; simp at e4; rw [e4]; rfl
  rw [hdn]
  have hnx' : ns.getD i 0 = t.1 := by simpa only [List.getD_cons_succ] using hnx
  have hwit : D t = ((K - (i + 1) : Nat) : Int) ∧ path.drop (i + 1) = chs l p.cs up D (K - (i + 1)) t ∧ ns.getD i 0 = t.1 := by
    rw [show K - (i + 1) = k' by omega]
    exact ⟨by omega, g4, hnx'⟩
  have hr := hRf t.1 hti
  have hfl := hRt t.1 hti
  refine ⟨by unfold In64; omega, ⟨by omega, by omega⟩, ⟨by omega, by omega⟩, fun hb => ?_, fun hb => ?_⟩
  · refine ⟨by unfold In64; omega, ⟨by omega, by omega⟩, ⟨by omega, by omega⟩, fun _ => ⟨by unfold In64; omega, by unfold In64; omega, fun h => ?_, fun _ => ⟨by unfold In64; omega, hi2, t, hwit, hb ▸ rfl⟩⟩⟩
    rw [show ((t.1, true) : St) = t from Prod.ext rfl hb.symm] at hfl
    rw [hfl, decide_eq_true (show D t = (path.length : Int) - i - 1 by omega)] at h
    simp at h
  · refine fun _ => ⟨by unfold In64; omega, by unfold In64; omega, fun h => ?_, fun _ => ⟨by unfold In64; omega, hi2, t, hwit, hb ▸ rfl⟩⟩
    rw [show ((t.1, false) : St) = t from Prod.ext rfl hb.symm] at hr
    rw [hr, decide_eq_true (show D t = (path.length : Int) - i - 1 by omega)] at h
    simp at h
end Go.Proofs.Ytibpkgopbecfoaa
namespace Go.Proofs.Ytibpkgopbecfoaa
set_option linter.unusedSimpArgs false
set_option linter.unusedVariables false
open Go.ChangeShapes Go.WideShapes Go.ChangeAt Go.RowKit

theorem law_updownRest (lvs : List LV) (h : fitAll Try.prog Try.f11.params.toList lvs) : Ev Try.prog 11 lvs (.sc (.bool true)) := by
  rw [Try.params11] at h
  obtain ⟨a0, l0, rfl, g0, h⟩ := all1 h
  obtain ⟨a1, l1, rfl, g1, h⟩ := all1 h
  obtain ⟨a2, l2, rfl, g2, h⟩ := all1 h
  obtain ⟨a3, l3, rfl, g3, h⟩ := all1 h
  obtain ⟨a4, l4, rfl, g4, h⟩ := all1 h
  obtain rfl := all0 h
  obtain ⟨p, ip, hp⟩ := arg_plan g0
  obtain ⟨o, io, ho, no⟩ := arg_order g1
  obtain ⟨u, iu, nu⟩ := arg_bools g2
  obtain ⟨f, rfl, hf⟩ := arg_int g3
  obtain ⟨t, rfl, ht⟩ := arg_int g4
  exact ev_im (bs := [plV p, .agg [intsV o], boolsV u, .sc (.int .i64 f), .sc (.int .i64 t)]) ⟨ip, io, iu, Im.refl _, Im.refl _, trivial⟩ (ev_lawRest p hp o u f t)
set_option maxRecDepth 100000 in
theorem lifted_updownRest (os : Os) (started : os.Started) (H : Type) (enc : TypeId × Value → H) :
    ReturnsInHanded {} Try.checked os 11 .any (Rows.updownRestSpec.pre6 enc Try.prog Try.f11 Rows.updownRestRow.domain false) (Rows.updownRestSpec.post enc Try.prog Try.f11 false true false false) := by
  refine law_lifted (C := Try.checked) (tb := 4) Try.own' started Try.laidOut' (by kernel_rfl) Try.func11
    (ChangeSpec.witness6 (enc := enc) (C := Try.checked) false ⟨#[], #[.agg #[.slice none 0 0, .slice none 0 0], .agg #[.slice none 0 0], .slice none 0 0, .int .i64 0, .int .i64 0], []⟩ 8 (by kernel_rfl) (by kernel_rfl) (by kernel_rfl) (by kernel_rfl))
    (by kernel_rfl) Try.underlying4 rfl (fun ds hd => ?_) (by kernel_rfl) law_updownRest
  have hd : ds.length = 5 := hd
  match ds, hd with
  | [d1, d2, d3, d4, d5], _ => exact ⟨rfl, rfl, rfl⟩
theorem updownRest_holds : Rows.UpdownRestSaid :=
  OpenClaim.holds_of_wide 11 Try.f11 rfl rfl rfl rfl rfl rfl rfl ⟨rfl, rfl, rfl, rfl, rfl⟩ rfl rfl rfl rfl rfl (by kernel_rfl) Try.func11 (by kernel_rfl)
    (of_decide_eq_true (by kernel_rfl)) (by unfold Func.isWrapper; first | (rw [if_pos (by decide +kernel)]; kernel_rfl) | (rw [if_neg (by decide +kernel)]; exact ⟨rfl, rfl⟩))
    (fun os started H enc _ => lifted_updownRest os started H enc)
end Go.Proofs.Ytibpkgopbecfoaa
