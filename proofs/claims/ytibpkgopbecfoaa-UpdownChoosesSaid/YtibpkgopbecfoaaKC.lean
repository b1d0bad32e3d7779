/- An order among the arguments, opened; Chosen paths are legal and shortest; For every plan, order, list of cables that are up, and two nodes: the law's function answers true, and its arguments read as they did. Conditions: none. -/
import Derived.Test.YtibpkgopbecfoaaMG
namespace Go.Proofs.Ytibpkgopbecfoaa
set_option linter.unusedSimpArgs false
set_option linter.unusedVariables false
open Go.RowKit
set_option maxRecDepth 100000

theorem arg_order {lv : LV} (h : fitA Try.prog 30 lv) : ∃ l : List Int, Im lv (.agg [intsV l]) ∧ (∀ x, x ∈ l → In64 x) ∧ l.length ≤ maxLen := by
  obtain ⟨ls, rfl, h0⟩ := arg_agg (by kernel_rfl) h
  obtain ⟨h1, d', h2⟩ := fit_flat Try.underlying30 (n := 1) (by kernel_rfl) (by kernel_rfl) h0
  obtain ⟨a, rfl⟩ : ∃ a, ls = [a] := by
    match ls, h1 with
    | [a], _ => exact ⟨a, rfl⟩
  obtain ⟨x, hx, h3⟩ := h2 0 _ rfl
  simp at hx
  subst hx
  obtain ⟨l, il, hl, nl⟩ := sl_i64 Try.underlying26 Try.underlying3 (by kernel_rfl) h3
  exact ⟨l, Im.aggL ⟨il, trivial⟩, hl, nl⟩
end Go.Proofs.Ytibpkgopbecfoaa
namespace Go.Proofs.Ytibpkgopbecfoaa
set_option linter.unusedSimpArgs false
set_option linter.unusedVariables false
open Go.RowKit
set_option maxRecDepth 20000

section
variable {p : Pl} {l : List Int} {up : List Bool} {to : Int} {D : St → Int}
theorem edg_acr (hv : validE p = 0) {s t : St} {i : Nat} (hi : i < p.cs.length) (h : EdgJ l p.cs up i s t) : (acrE (p.cs.getD i default) s.1).2 = true ∧ (acrE (p.cs.getD i default) s.1).1 = t.1 :=
  (acr_iff ((valid_of hv).self _ (getD_mem default hi))).1 h.2.1
/-- What can be reached by falling can be reached at most as far by rising. -/
theorem fall_rise (hv : validE p = 0) (hll : l.length = p.ns.length) (hD : DFacts p.ns.length l p.cs up to D) : ∀ (k : Nat) (x : Int), D (x, true) = k → 0 ≤ D (x, false) ∧ D (x, false) ≤ k
  | 0, x, h => by
    have := (hD.zero (x, true)).1 h
    have h2 := (hD.zero (x, false)).2 this
    omega
  | k + 1, x, h => by
    obtain ⟨t, he, hd⟩ := hD.next (x, true) (by omega)
    have hst := edg_stp hll (valid_of hv).cab (valid_of hv).self he
    obtain ⟨i, hi, he⟩ := he
    obtain ⟨e1, e2, e3, e4⟩ := he
    have hs : (!aboveB l t.1 x) = true := by
      rcases hst with ⟨a, _⟩ | ⟨_, b, _⟩
      · rw [e3] at a; exact a
      · simp at b
    have := hD.edge (x, false) t ⟨i, hi, e1, e2, e3, by show (!aboveB l t.1 x || !false) = true; rw [hs]; rfl⟩ (by omega)
    omega
theorem no_back (hv : validE p = 0) (hll : l.length = p.ns.length) (hD : DFacts p.ns.length l p.cs up to D) {r s t : St} {i : Nat} (hi : i < p.cs.length) (h1 : EdgJ l p.cs up i r s) (h2 : EdgJ l p.cs up i s t) (d1 : D s = D r - 1) (d2 : D t = D s - 1) (d0 : 0 ≤ D t) : False := by
  have hne := (valid_of hv).self _ (getD_mem default hi)
  have hte : t.1 = r.1 := by
    rcases h1.2.1 with ⟨a1, a2⟩ | ⟨a1, a2⟩ <;> rcases h2.2.1 with ⟨b1, b2⟩ | ⟨b1, b2⟩
    · exact absurd (b1.symm.trans a2) hne
    · rw [b2, a1]
    · rw [b2, a1]
    · exact absurd (a2.symm.trans b1) hne
  have s1 := edg_stp hll (valid_of hv).cab (valid_of hv).self ⟨i, hi, h1⟩
  have s2 := edg_stp hll (valid_of hv).cab (valid_of hv).self ⟨i, hi, h2⟩
  rw [hte] at s2
  rcases s1 with ⟨a1, a2⟩ | ⟨a1, a2, a3⟩
  · -- downward, and then not upward again
    rcases s2 with ⟨b1, b2⟩ | ⟨b1, b2, b3⟩
    · have x1 := (stp2.1 a2).2
      have x2 := (stp2.1 b2).1
      rw [x1] at x2; simp at x2
    · rw [a1] at b2; simp at b2
  · rcases s2 with ⟨b1, b2⟩ | ⟨b1, b2, b3⟩
    · have ht : t = (r.1, true) := Prod.ext hte b1
      have hr : r = (r.1, false) := Prod.ext rfl a2
      rw [ht] at d0 d2
      have := fall_rise hv hll hD (D (r.1, true)).toNat r.1 (by omega)
      rw [hr] at d1
      omega
    · have x1 := stp1.1 a3
      have x2 := stp1.1 b3
      obtain ⟨n1, n2⟩ := edg_in (valid_of hv).cab hi h1
      rw [above_iff hll n2 n1] at x1
      rw [above_iff hll n1 n2] at x2
      omega
structure Cho (p : Pl) (l : List Int) (up : List Bool) (to : Int) (k : Nat) (s : St) (pr : Option Int) (path ns : List Int) : Prop where
  walk : wlk p.cs s.1 path = some ns
  len : ns.length = k ∧ path.length = k
  cab : path.all (cabB p) = true
  up : ∀ c, c ∈ path → up.getD c.toNat false = true
  lvs : lvs l ns = true
  leg : lgl l p.cs s.1 s.2 pr path = true
  last : (s.1 :: ns).getD k 0 = to
theorem chs_ok (hv : validE p = 0) (hll : l.length = p.ns.length) (ht : inN p.ns.length to) (hD : DFacts p.ns.length l p.cs up to D) : ∀ (k : Nat) (s : St) (pr : Option Int), D s = k → (∀ (i : Nat) (t : St), i < p.cs.length → EdgJ l p.cs up i s t → D t = D s - 1 → 0 ≤ D t → pr ≠ some (i : Int)) → ∃ ns, Cho p l up to k s pr (chs l p.cs up D k s) ns
  | 0, s, pr, hk, _ => ⟨[], rfl, ⟨rfl, rfl⟩, rfl, fun c hc => by simp [chs] at hc, rfl, rfl, ((hD.zero s).1 hk).1⟩
  | k + 1, s, pr, hk, hpr => by
    obtain ⟨i, t, q1, q2, q3, q4, _⟩ := fst_some hv hll ht hD hk (by omega)
    have hch : chs l p.cs up D (k + 1) s = (i : Int) :: chs l p.cs up D k t := by simp only [chs]; rw [q1]
    obtain ⟨ns, h⟩ := chs_ok hv hll ht hD k t (some (i : Int)) (by omega) (fun j u hj he hd h0 e => by
      have hij : j = i := by simp at e; omega
      subst hij
      exact no_back hv hll hD q2 q3 he (by omega) hd h0)
    obtain ⟨a1, a2⟩ := edg_acr hv q2 q3
    have e3 := q3.2.2.1
    have e4 := q3.2.2.2
    rw [hch]
    refine ⟨t.1 :: ns, ?_, ⟨by simp [h.len.1], by simp [h.len.2]⟩, ?_, ?_, ?_, ?_, ?_⟩
    · unfold wlk
      rw [Int.toNat_natCast, if_pos a1, a2, h.walk]; rfl
    · rw [List.all_cons, h.cab]
      unfold cabB
      simp; omega
    · intro c hc
      rcases List.mem_cons.1 hc with rfl | hc
      · rw [Int.toNat_natCast]; exact (edg_lvl q3).2.2
      · exact h.up c hc
    · have := h.lvs
      unfold Proofs.Ytibpkgopbecfoaa.lvs at this ⊢
      rw [List.all_cons, this, decide_eq_true (edg_lvl q3).2.1]; rfl
    · unfold lgl
      rw [Int.toNat_natCast, a2, ← e3, h.leg]
      rw [← e3] at e4
      have hp := hpr i t q2 q3 (by omega) (by omega)
      rw [e4, decide_eq_false hp]; rfl
    · rw [List.getD_cons_succ]; exact h.last
end
theorem fit_of {p : Pl} {l : List Int} {up : List Bool} (h : fitB p l up = true) : validE p = 0 ∧ up.length = p.cs.length ∧ ordB p l = true := by
  unfold fitB at h
  simp only [Bool.and_eq_true, decide_eq_true_eq] at h
  exact ⟨h.2.1, h.2.2.1, h.2.2.2⟩
theorem nodes_cho {p : Pl} (hv : validE p = 0) {l : List Int} {up : List Bool} {to : Int} {k : Nat} {s : St} {pr : Option Int} {path ns : List Int} (hs : nodB p s.1 = true) (h : Cho p l up to k s pr path ns) : nodesE p s.1 path = (s.1 :: ns, 0) := by
  unfold nodesE
  rw [if_pos hv, if_pos hs, if_pos h.cab, h.walk]
theorem ev_lawChooses (p : Pl) (hp : PlOk p) (l : List Int) (up : List Bool) (f to : Int) : Ev Try.prog 7 [plV p, .agg [intsV l], boolsV up, .sc (.int .i64 f), .sc (.int .i64 to)] (.sc (.bool true)) := by
  have h1 := ev_awake18
  have h2 := ev_fit p l up
  have h3 := ev_nodeL p
  have h4 := ev_Dist p hp l up to
  have h5 := ev_path p hp l up f to
  have h6 := ev_nodes p hp f
  have h7 := ev_legal p hp l f
  unfold plV boolsV intsV at *
  refine ev_fn Try.func7 comp7 (show 5 ≤ Try.f7.ntmps by decide) ?_; unfold cf7 rf7; simp only [↓EVP0, EVQ0, EVQ1, EVQ2, EVQ3, EVQ4, EVA, EVK, EVF, ↓reduceIte, Nat.reduceEqDiff, Nat.reduceAdd, Nat.reduceSub, Nat.reduceMul, Nat.reduceLT, Nat.reduceLeDiff, reduceCtorEq, Int.reduceToNat, Int.reduceLT, Int.reduceLE, Int.reduceAdd, Int.reduceSub, Int.reduceMul, Int.reduceNeg, Int.reduceEq, Nat.reduceMod, forall_eq_or_imp, forall_eq, forall_const, cond_true, cond_false, decide_true, decide_false, true_imp_iff, implies_true, Int.cast_ofNat_Int, forall_eq']
  refine callK_ro (h1) ?_ ?_
  · simp only [↓EVP0, EVQ0, EVQ1, EVQ2, EVQ3, EVQ4, EVA, EVK, EVF, ↓reduceIte, Nat.reduceEqDiff, Nat.reduceAdd, Nat.reduceSub, Nat.reduceMul, Nat.reduceLT, Nat.reduceLeDiff, reduceCtorEq, Int.reduceToNat, Int.reduceLT, Int.reduceLE, Int.reduceAdd, Int.reduceSub, Int.reduceMul, Int.reduceNeg, Int.reduceEq, Nat.reduceMod, forall_eq_or_imp, forall_eq, forall_const, cond_true, cond_false, decide_true, decide_false, true_imp_iff, implies_true, Int.cast_ofNat_Int, forall_eq']
  simp only [↓EVP0, EVQ0, EVQ1, EVQ2, EVQ3, EVQ4, EVA, EVK, EVF, ↓reduceIte, Nat.reduceEqDiff, Nat.reduceAdd, Nat.reduceSub, Nat.reduceMul, Nat.reduceLT, Nat.reduceLeDiff, reduceCtorEq, Int.reduceToNat, Int.reduceLT, Int.reduceLE, Int.reduceAdd, Int.reduceSub, Int.reduceMul, Int.reduceNeg, Int.reduceEq, Nat.reduceMod, forall_eq_or_imp, forall_eq, forall_const, cond_true, cond_false, decide_true, decide_false, true_imp_iff, implies_true, Int.cast_ofNat_Int, forall_eq']
  refine callK_ro (h2) ?_ ?_
  · simp only [↓EVP0, EVQ0, EVQ1, EVQ2, EVQ3, EVQ4, EVA, EVK, EVF, ↓reduceIte, Nat.reduceEqDiff, Nat.reduceAdd, Nat.reduceSub, Nat.reduceMul, Nat.reduceLT, Nat.reduceLeDiff, reduceCtorEq, Int.reduceToNat, Int.reduceLT, Int.reduceLE, Int.reduceAdd, Int.reduceSub, Int.reduceMul, Int.reduceNeg, Int.reduceEq, Nat.reduceMod, forall_eq_or_imp, forall_eq, forall_const, cond_true, cond_false, decide_true, decide_false, true_imp_iff, implies_true, Int.cast_ofNat_Int, forall_eq']
  simp only [↓EVP0, EVQ0, EVQ1, EVQ2, EVQ3, EVQ4, EVA, EVK, EVF, ↓reduceIte, Nat.reduceEqDiff, Nat.reduceAdd, Nat.reduceSub, Nat.reduceMul, Nat.reduceLT, Nat.reduceLeDiff, reduceCtorEq, Int.reduceToNat, Int.reduceLT, Int.reduceLE, Int.reduceAdd, Int.reduceSub, Int.reduceMul, Int.reduceNeg, Int.reduceEq, Nat.reduceMod, forall_eq_or_imp, forall_eq, forall_const, cond_true, cond_false, decide_true, decide_false, true_imp_iff, implies_true, Int.cast_ofNat_Int, forall_eq']
  (refine lops_ge_imp ?_; simp only [↓EVP0, EVQ0, EVQ1, EVQ2, EVQ3, EVQ4, EVA, EVK, EVF, ↓reduceIte, Nat.reduceEqDiff, Nat.reduceAdd, Nat.reduceSub, Nat.reduceMul, Nat.reduceLT, Nat.reduceLeDiff, reduceCtorEq, Int.reduceToNat, Int.reduceLT, Int.reduceLE, Int.reduceAdd, Int.reduceSub, Int.reduceMul, Int.reduceNeg, Int.reduceEq, Nat.reduceMod, forall_eq_or_imp, forall_eq, forall_const, cond_true, cond_false, decide_true, decide_false, true_imp_iff, implies_true, Int.cast_ofNat_Int, forall_eq'])
  refine gCallK_ro _ (fun _ => h3 f) (fun _ => ?_) ?_
  · simp only [↓EVP0, EVQ0, EVQ1, EVQ2, EVQ3, EVQ4, EVA, EVK, EVF, ↓reduceIte, Nat.reduceEqDiff, Nat.reduceAdd, Nat.reduceSub, Nat.reduceMul, Nat.reduceLT, Nat.reduceLeDiff, reduceCtorEq, Int.reduceToNat, Int.reduceLT, Int.reduceLE, Int.reduceAdd, Int.reduceSub, Int.reduceMul, Int.reduceNeg, Int.reduceEq, Nat.reduceMod, forall_eq_or_imp, forall_eq, forall_const, cond_true, cond_false, decide_true, decide_false, true_imp_iff, implies_true, Int.cast_ofNat_Int, forall_eq']
  simp only [↓EVP0, EVQ0, EVQ1, EVQ2, EVQ3, EVQ4, EVA, EVK, EVF, ↓reduceIte, Nat.reduceEqDiff, Nat.reduceAdd, Nat.reduceSub, Nat.reduceMul, Nat.reduceLT, Nat.reduceLeDiff, reduceCtorEq, Int.reduceToNat, Int.reduceLT, Int.reduceLE, Int.reduceAdd, Int.reduceSub, Int.reduceMul, Int.reduceNeg, Int.reduceEq, Nat.reduceMod, forall_eq_or_imp, forall_eq, forall_const, cond_true, cond_false, decide_true, decide_false, true_imp_iff, implies_true, Int.cast_ofNat_Int, forall_eq']
  (refine lops_ge_imp ?_; simp only [↓EVP0, EVQ0, EVQ1, EVQ2, EVQ3, EVQ4, EVA, EVK, EVF, ↓reduceIte, Nat.reduceEqDiff, Nat.reduceAdd, Nat.reduceSub, Nat.reduceMul, Nat.reduceLT, Nat.reduceLeDiff, reduceCtorEq, Int.reduceToNat, Int.reduceLT, Int.reduceLE, Int.reduceAdd, Int.reduceSub, Int.reduceMul, Int.reduceNeg, Int.reduceEq, Nat.reduceMod, forall_eq_or_imp, forall_eq, forall_const, cond_true, cond_false, decide_true, decide_false, true_imp_iff, implies_true, Int.cast_ofNat_Int, forall_eq'])
  refine gCallK_ro _ (fun _ => h3 to) (fun _ => ?_) ?_
  · simp only [↓EVP0, EVQ0, EVQ1, EVQ2, EVQ3, EVQ4, EVA, EVK, EVF, ↓reduceIte, Nat.reduceEqDiff, Nat.reduceAdd, Nat.reduceSub, Nat.reduceMul, Nat.reduceLT, Nat.reduceLeDiff, reduceCtorEq, Int.reduceToNat, Int.reduceLT, Int.reduceLE, Int.reduceAdd, Int.reduceSub, Int.reduceMul, Int.reduceNeg, Int.reduceEq, Nat.reduceMod, forall_eq_or_imp, forall_eq, forall_const, cond_true, cond_false, decide_true, decide_false, true_imp_iff, implies_true, Int.cast_ofNat_Int, forall_eq']
  simp only [↓EVP0, EVQ0, EVQ1, EVQ2, EVQ3, EVQ4, EVA, EVK, EVF, ↓reduceIte, Nat.reduceEqDiff, Nat.reduceAdd, Nat.reduceSub, Nat.reduceMul, Nat.reduceLT, Nat.reduceLeDiff, reduceCtorEq, Int.reduceToNat, Int.reduceLT, Int.reduceLE, Int.reduceAdd, Int.reduceSub, Int.reduceMul, Int.reduceNeg, Int.reduceEq, Nat.reduceMod, forall_eq_or_imp, forall_eq, forall_const, cond_true, cond_false, decide_true, decide_false, true_imp_iff, implies_true, Int.cast_ofNat_Int, forall_eq']
  have ec : (bif bif !fitB p l up then true else !nodB p f then true else !nodB p to) = !decide (fitB p l up = true ∧ nodB p f = true ∧ nodB p to = true) := by
    cases fitB p l up <;> cases nodB p f <;> cases nodB p to <;> rfl
  rw [ec]
  refine ⟨fun _ => trivial, fun h => ?_⟩
  have hh : fitB p l up = true ∧ nodB p f = true ∧ nodB p to = true := by simpa using h
  obtain ⟨hfit, hnf, hnt⟩ := hh
  obtain ⟨hv, hup, ho⟩ := fit_of hfit
  have hO := ord_of ho
  have hf := nodB_in hnf
  have ht := nodB_in hnt
  have hD := d_facts (l := l) (cs := p.cs) (up := up) (show p.ns.length ≤ 100 by have := (valid_of hv).n16; omega) (valid_of hv).cab ht
  have ed : distE p l up to = ((dL p.ns.length l p.cs up to false p.ns.length, dL p.ns.length l p.cs up to true p.ns.length), 0) := by
    unfold distE; rw [if_pos ⟨ho, hup⟩, if_pos hnt]
  have ep : pathE p l up f to = if dS p.ns.length l p.cs up to (f, false) = -1 then ([], 12) else (chs l p.cs up (dS p.ns.length l p.cs up to) (dS p.ns.length l p.cs up to (f, false)).toNat (f, false), 0) := by
    unfold pathE; rw [if_pos ⟨ho, hup⟩, if_pos ⟨hnf, hnt⟩]
  have hlo := hD.low (f, false)
  have hf' := hf
  unfold inN at hf'
  have hget : (dL p.ns.length l p.cs up to false p.ns.length).getD f.toNat 0 = dS p.ns.length l p.cs up to (f, false) := by
    rw [dL_get (by omega), show ((f.toNat : Nat) : Int) = f by omega]
  have hlen := dL_len p.ns.length l p.cs up to false p.ns.length
  have h16 := (valid_of hv).n16
  rw [ed] at h4
  rw [ep] at h5
  simp only at h4
  by_cases h0 : dS p.ns.length l p.cs up to (f, false) = -1
  · rw [if_pos h0] at h5
    simp only at h5
    refine callK_ro (h4) ?_ ?_
    · simp only [↓EVP0, EVQ0, EVQ1, EVQ2, EVQ3, EVQ4, EVA, EVK, EVF, ↓reduceIte, Nat.reduceEqDiff, Nat.reduceAdd, Nat.reduceSub, Nat.reduceMul, Nat.reduceLT, Nat.reduceLeDiff, reduceCtorEq, Int.reduceToNat, Int.reduceLT, Int.reduceLE, Int.reduceAdd, Int.reduceSub, Int.reduceMul, Int.reduceNeg, Int.reduceEq, Nat.reduceMod, forall_eq_or_imp, forall_eq, forall_const, cond_true, cond_false, decide_true, decide_false, true_imp_iff, implies_true, Int.cast_ofNat_Int, forall_eq']
    simp only [↓EVP0, EVQ0, EVQ1, EVQ2, EVQ3, EVQ4, EVA, EVK, EVF, ↓reduceIte, Nat.reduceEqDiff, Nat.reduceAdd, Nat.reduceSub, Nat.reduceMul, Nat.reduceLT, Nat.reduceLeDiff, reduceCtorEq, Int.reduceToNat, Int.reduceLT, Int.reduceLE, Int.reduceAdd, Int.reduceSub, Int.reduceMul, Int.reduceNeg, Int.reduceEq, Nat.reduceMod, forall_eq_or_imp, forall_eq, forall_const, cond_true, cond_false, decide_true, decide_false, true_imp_iff, implies_true, Int.cast_ofNat_Int, forall_eq']
    refine callK_ro (h5) ?_ ?_
    · simp only [↓EVP0, EVQ0, EVQ1, EVQ2, EVQ3, EVQ4, EVA, EVK, EVF, ↓reduceIte, Nat.reduceEqDiff, Nat.reduceAdd, Nat.reduceSub, Nat.reduceMul, Nat.reduceLT, Nat.reduceLeDiff, reduceCtorEq, Int.reduceToNat, Int.reduceLT, Int.reduceLE, Int.reduceAdd, Int.reduceSub, Int.reduceMul, Int.reduceNeg, Int.reduceEq, Nat.reduceMod, forall_eq_or_imp, forall_eq, forall_const, cond_true, cond_false, decide_true, decide_false, true_imp_iff, implies_true, Int.cast_ofNat_Int, forall_eq']
    simp only [↓EVP0, EVQ0, EVQ1, EVQ2, EVQ3, EVQ4, EVA, EVK, EVF, ↓reduceIte, Nat.reduceEqDiff, Nat.reduceAdd, Nat.reduceSub, Nat.reduceMul, Nat.reduceLT, Nat.reduceLeDiff, reduceCtorEq, Int.reduceToNat, Int.reduceLT, Int.reduceLE, Int.reduceAdd, Int.reduceSub, Int.reduceMul, Int.reduceNeg, Int.reduceEq, Nat.reduceMod, forall_eq_or_imp, forall_eq, forall_const, cond_true, cond_false, decide_true, decide_false, true_imp_iff, implies_true, Int.cast_ofNat_Int, forall_eq']
    simp only [hlen, hget, h0]
    simp only [↓EVP0, EVQ0, EVQ1, EVQ2, EVQ3, EVQ4, EVA, EVK, EVF, ↓reduceIte, Nat.reduceEqDiff, Nat.reduceAdd, Nat.reduceSub, Nat.reduceMul, Nat.reduceLT, Nat.reduceLeDiff, reduceCtorEq, Int.reduceToNat, Int.reduceLT, Int.reduceLE, Int.reduceAdd, Int.reduceSub, Int.reduceMul, Int.reduceNeg, Int.reduceEq, Nat.reduceMod, forall_eq_or_imp, forall_eq, forall_const, cond_true, cond_false, decide_true, decide_false, true_imp_iff, implies_true, Int.cast_ofNat_Int, forall_eq']
    exact ⟨by omega, by omega⟩
  · rw [if_neg h0] at h5
    simp only at h5
    obtain ⟨ns, hc⟩ := chs_ok hv hO.len ht hD (dS p.ns.length l p.cs up to (f, false)).toNat (f, false) none (by omega) (fun _ _ _ _ _ _ => by simp)
    have hnd := nodes_cho (s := (f, false)) hv hnf hc
    generalize chs l p.cs up (dS p.ns.length l p.cs up to) (dS p.ns.length l p.cs up to (f, false)).toNat (f, false) = path at *
    have hpl : path.length ≤ 1000 := by have := hc.len.2; omega
    have h6' := h6 path hpl
    have h7' := h7 path hpl
    have hleg : legalE p l f path = true := by
      unfold legalE
      rw [ho, hnd]
      have hl1 := hc.lvs
      have hl2 := hc.leg
      have hl3 := hD.lvl (f, false) (by omega)
      simp only at hl3 hl2
      show (true && (decide ((0 : Int) = 0) && (lvs l (f :: ns) && _))) = true
      rw [hl2]
      unfold lvs at hl1 ⊢
      rw [List.all_cons, hl1, decide_eq_true hl3]; rfl
    simp only at hnd
    rw [hnd] at h6'
    rw [hleg] at h7'
    refine callK_ro (h4) ?_ ?_
    · simp only [↓EVP0, EVQ0, EVQ1, EVQ2, EVQ3, EVQ4, EVA, EVK, EVF, ↓reduceIte, Nat.reduceEqDiff, Nat.reduceAdd, Nat.reduceSub, Nat.reduceMul, Nat.reduceLT, Nat.reduceLeDiff, reduceCtorEq, Int.reduceToNat, Int.reduceLT, Int.reduceLE, Int.reduceAdd, Int.reduceSub, Int.reduceMul, Int.reduceNeg, Int.reduceEq, Nat.reduceMod, forall_eq_or_imp, forall_eq, forall_const, cond_true, cond_false, decide_true, decide_false, true_imp_iff, implies_true, Int.cast_ofNat_Int, forall_eq']
    simp only [↓EVP0, EVQ0, EVQ1, EVQ2, EVQ3, EVQ4, EVA, EVK, EVF, ↓reduceIte, Nat.reduceEqDiff, Nat.reduceAdd, Nat.reduceSub, Nat.reduceMul, Nat.reduceLT, Nat.reduceLeDiff, reduceCtorEq, Int.reduceToNat, Int.reduceLT, Int.reduceLE, Int.reduceAdd, Int.reduceSub, Int.reduceMul, Int.reduceNeg, Int.reduceEq, Nat.reduceMod, forall_eq_or_imp, forall_eq, forall_const, cond_true, cond_false, decide_true, decide_false, true_imp_iff, implies_true, Int.cast_ofNat_Int, forall_eq']
    refine callK_ro (h5) ?_ ?_
    · simp only [↓EVP0, EVQ0, EVQ1, EVQ2, EVQ3, EVQ4, EVA, EVK, EVF, ↓reduceIte, Nat.reduceEqDiff, Nat.reduceAdd, Nat.reduceSub, Nat.reduceMul, Nat.reduceLT, Nat.reduceLeDiff, reduceCtorEq, Int.reduceToNat, Int.reduceLT, Int.reduceLE, Int.reduceAdd, Int.reduceSub, Int.reduceMul, Int.reduceNeg, Int.reduceEq, Nat.reduceMod, forall_eq_or_imp, forall_eq, forall_const, cond_true, cond_false, decide_true, decide_false, true_imp_iff, implies_true, Int.cast_ofNat_Int, forall_eq']
    simp only [↓EVP0, EVQ0, EVQ1, EVQ2, EVQ3, EVQ4, EVA, EVK, EVF, ↓reduceIte, Nat.reduceEqDiff, Nat.reduceAdd, Nat.reduceSub, Nat.reduceMul, Nat.reduceLT, Nat.reduceLeDiff, reduceCtorEq, Int.reduceToNat, Int.reduceLT, Int.reduceLE, Int.reduceAdd, Int.reduceSub, Int.reduceMul, Int.reduceNeg, Int.reduceEq, Nat.reduceMod, forall_eq_or_imp, forall_eq, forall_const, cond_true, cond_false, decide_true, decide_false, true_imp_iff, implies_true, Int.cast_ofNat_Int, forall_eq']
    simp only [hlen, hget]
    simp only [↓EVP0, EVQ0, EVQ1, EVQ2, EVQ3, EVQ4, EVA, EVK, EVF, ↓reduceIte, Nat.reduceEqDiff, Nat.reduceAdd, Nat.reduceSub, Nat.reduceMul, Nat.reduceLT, Nat.reduceLeDiff, reduceCtorEq, Int.reduceToNat, Int.reduceLT, Int.reduceLE, Int.reduceAdd, Int.reduceSub, Int.reduceMul, Int.reduceNeg, Int.reduceEq, Nat.reduceMod, forall_eq_or_imp, forall_eq, forall_const, cond_true, cond_false, decide_true, decide_false, true_imp_iff, implies_true, Int.cast_ofNat_Int, forall_eq']
    refine ⟨⟨by omega, by omega⟩, fun h => ?_, fun _ => ?_⟩
    · have := of_decide_eq_true h; omega
    refine callK_ro (h6') ?_ ?_
    · simp only [↓EVP0, EVQ0, EVQ1, EVQ2, EVQ3, EVQ4, EVA, EVK, EVF, ↓reduceIte, Nat.reduceEqDiff, Nat.reduceAdd, Nat.reduceSub, Nat.reduceMul, Nat.reduceLT, Nat.reduceLeDiff, reduceCtorEq, Int.reduceToNat, Int.reduceLT, Int.reduceLE, Int.reduceAdd, Int.reduceSub, Int.reduceMul, Int.reduceNeg, Int.reduceEq, Nat.reduceMod, forall_eq_or_imp, forall_eq, forall_const, cond_true, cond_false, decide_true, decide_false, true_imp_iff, implies_true, Int.cast_ofNat_Int, forall_eq']
    simp only [↓EVP0, EVQ0, EVQ1, EVQ2, EVQ3, EVQ4, EVA, EVK, EVF, ↓reduceIte, Nat.reduceEqDiff, Nat.reduceAdd, Nat.reduceSub, Nat.reduceMul, Nat.reduceLT, Nat.reduceLeDiff, reduceCtorEq, Int.reduceToNat, Int.reduceLT, Int.reduceLE, Int.reduceAdd, Int.reduceSub, Int.reduceMul, Int.reduceNeg, Int.reduceEq, Nat.reduceMod, forall_eq_or_imp, forall_eq, forall_const, cond_true, cond_false, decide_true, decide_false, true_imp_iff, implies_true, Int.cast_ofNat_Int, forall_eq']
    have hn1 := hc.len.1
    have hn2 := hc.len.2
    rw [hlen]
    refine ⟨⟨by omega, by omega⟩, fun _ => by unfold In64; omega, fun _ => by unfold In64; omega, fun _ => ⟨by omega, by omega⟩, ?_⟩
    (refine lops_ge_imp ?_; simp only [↓EVP0, EVQ0, EVQ1, EVQ2, EVQ3, EVQ4, EVA, EVK, EVF, ↓reduceIte, Nat.reduceEqDiff, Nat.reduceAdd, Nat.reduceSub, Nat.reduceMul, Nat.reduceLT, Nat.reduceLeDiff, reduceCtorEq, Int.reduceToNat, Int.reduceLT, Int.reduceLE, Int.reduceAdd, Int.reduceSub, Int.reduceMul, Int.reduceNeg, Int.reduceEq, Nat.reduceMod, forall_eq_or_imp, forall_eq, forall_const, cond_true, cond_false, decide_true, decide_false, true_imp_iff, implies_true, Int.cast_ofNat_Int, forall_eq'])
    refine gCallK_ro _ (fun _ => h7') (fun _ => ?_) ?_
    · simp only [↓EVP0, EVQ0, EVQ1, EVQ2, EVQ3, EVQ4, EVA, EVK, EVF, ↓reduceIte, Nat.reduceEqDiff, Nat.reduceAdd, Nat.reduceSub, Nat.reduceMul, Nat.reduceLT, Nat.reduceLeDiff, reduceCtorEq, Int.reduceToNat, Int.reduceLT, Int.reduceLE, Int.reduceAdd, Int.reduceSub, Int.reduceMul, Int.reduceNeg, Int.reduceEq, Nat.reduceMod, forall_eq_or_imp, forall_eq, forall_const, cond_true, cond_false, decide_true, decide_false, true_imp_iff, implies_true, Int.cast_ofNat_Int, forall_eq']
    simp only [↓EVP0, EVQ0, EVQ1, EVQ2, EVQ3, EVQ4, EVA, EVK, EVF, ↓reduceIte, Nat.reduceEqDiff, Nat.reduceAdd, Nat.reduceSub, Nat.reduceMul, Nat.reduceLT, Nat.reduceLeDiff, reduceCtorEq, Int.reduceToNat, Int.reduceLT, Int.reduceLE, Int.reduceAdd, Int.reduceSub, Int.reduceMul, Int.reduceNeg, Int.reduceEq, Nat.reduceMod, forall_eq_or_imp, forall_eq, forall_const, cond_true, cond_false, decide_true, decide_false, true_imp_iff, implies_true, Int.cast_ofNat_Int, forall_eq']
    rw [hget]
    have hlast := hc.last
    simp only at hlast
    have e1 : (path.length : Int) = dS p.ns.length l p.cs up to (f, false) := by omega
    have e2 : (ns.length : Int) + 1 = (path.length : Int) + 1 := by omega
    have e3 : (f :: ns).getD ((ns.length : Int) + 1 - 1).toNat 0 = to := by
      rw [show ((ns.length : Int) + 1 - 1).toNat = (dS p.ns.length l p.cs up to (f, false)).toNat by omega]; exact hlast
    rw [decide_eq_true e1, decide_eq_true e2, decide_eq_true e3]
    refine ⟨fun h => by simp at h, fun _ => ?_⟩
    intro _
    refine lwp_for (α := Unit) path.length (fun i _ => True) (fun i _ => [(2, .rsl 1 up.length (boolsF up)), (127, .rsl 1 path.length (intsF path)), (128, .sc (.int .i64 path.length)), (129, .sc (.int .i64 i))])
      (fun _ _ => []) () trivial ?_ (fun _ _ => Nat.zero_le _) ?_
    · simp only [↓EVP0, EVQ0, EVQ1, EVQ2, EVQ3, EVQ4, EVA, EVK, EVF, ↓reduceIte, Nat.reduceEqDiff, Nat.reduceAdd, Nat.reduceSub, Nat.reduceMul, Nat.reduceLT, Nat.reduceLeDiff, reduceCtorEq, Int.reduceToNat, Int.reduceLT, Int.reduceLE, Int.reduceAdd, Int.reduceSub, Int.reduceMul, Int.reduceNeg, Int.reduceEq, Nat.reduceMod, forall_eq_or_imp, forall_eq, forall_const, cond_true, cond_false, decide_true, decide_false, true_imp_iff, implies_true, Int.cast_ofNat_Int, forall_eq']
    intro i _ hi _
    unfold lb7_0
    simp only [↓EVP0, EVQ0, EVQ1, EVQ2, EVQ3, EVQ4, EVA, EVK, EVF, ↓reduceIte, Nat.reduceEqDiff, Nat.reduceAdd, Nat.reduceSub, Nat.reduceMul, Nat.reduceLT, Nat.reduceLeDiff, reduceCtorEq, Int.reduceToNat, Int.reduceLT, Int.reduceLE, Int.reduceAdd, Int.reduceSub, Int.reduceMul, Int.reduceNeg, Int.reduceEq, Nat.reduceMod, forall_eq_or_imp, forall_eq, forall_const, cond_true, cond_false, decide_true, decide_false, true_imp_iff, implies_true, Int.cast_ofNat_Int, forall_eq']
    refine ⟨fun hg => ?_, fun hg => ?_⟩
    · have hi2 : i < path.length := by have := of_decide_eq_true hg; omega
      have hm := getD_mem 0 hi2
      have hcab := List.all_eq_true.1 hc.cab _ hm
      have hup2 := hc.up _ hm
      unfold cabB at hcab
      simp only [Bool.and_eq_true, decide_eq_true_eq] at hcab
      generalize path.getD i 0 = c at *
      refine ⟨⟨by omega, by omega⟩, ⟨by omega, by omega⟩, fun h => ?_, fun h => ⟨by unfold In64; omega, hi2, (), trivial⟩⟩
      rw [hup2] at h; simp at h
    · trivial
end Go.Proofs.Ytibpkgopbecfoaa
namespace Go.Proofs.Ytibpkgopbecfoaa
set_option linter.unusedSimpArgs false
set_option linter.unusedVariables false
open Go.ChangeShapes Go.WideShapes Go.ChangeAt Go.RowKit

theorem law_updownChooses (lvs : List LV) (h : fitAll Try.prog Try.f7.params.toList lvs) : Ev Try.prog 7 lvs (.sc (.bool true)) := by
  rw [Try.params7] at h
  obtain ⟨a0, l0, rfl, g0, h⟩ := all1 h
  obtain ⟨a1, l1, rfl, g1, h⟩ := all1 h
  obtain ⟨a2, l2, rfl, g2, h⟩ := all1 h
  obtain ⟨a3, l3, rfl, g3, h⟩ := all1 h
  obtain ⟨a4, l4, rfl, g4, h⟩ := all1 h
  obtain rfl := all0 h
  obtain ⟨p, ip, hp⟩ := arg_plan g0
  obtain ⟨o, io, ho, no⟩ := arg_order g1
  obtain ⟨u, iu, nu⟩ := arg_bools g2
  obtain ⟨f, rfl, hf⟩ := arg_int g3
  obtain ⟨t, rfl, ht⟩ := arg_int g4
  exact ev_im (bs := [plV p, .agg [intsV o], boolsV u, .sc (.int .i64 f), .sc (.int .i64 t)]) ⟨ip, io, iu, Im.refl _, Im.refl _, trivial⟩ (ev_lawChooses p hp o u f t)
set_option maxRecDepth 100000 in
theorem lifted_updownChooses (os : Os) (started : os.Started) (H : Type) (enc : TypeId × Value → H) :
    ReturnsInHanded {} Try.checked os 7 .any (Rows.updownChoosesSpec.pre6 enc Try.prog Try.f7 Rows.updownChoosesRow.domain false) (Rows.updownChoosesSpec.post enc Try.prog Try.f7 false true false false) := by
  refine law_lifted (C := Try.checked) (tb := 4) Try.own' started Try.laidOut' (by kernel_rfl) Try.func7
    (ChangeSpec.witness6 (enc := enc) (C := Try.checked) false ⟨#[], #[.agg #[.slice none 0 0, .slice none 0 0], .agg #[.slice none 0 0], .slice none 0 0, .int .i64 0, .int .i64 0], []⟩ 8 (by kernel_rfl) (by kernel_rfl) (by kernel_rfl) (by kernel_rfl))
    (by kernel_rfl) Try.underlying4 rfl (fun ds hd => ?_) (by kernel_rfl) law_updownChooses
  have hd : ds.length = 5 := hd
  match ds, hd with
  | [d1, d2, d3, d4, d5], _ => exact ⟨rfl, rfl, rfl⟩
theorem updownChooses_holds : Rows.UpdownChoosesSaid :=
  OpenClaim.holds_of_wide 7 Try.f7 rfl rfl rfl rfl rfl rfl rfl ⟨rfl, rfl, rfl, rfl, rfl⟩ rfl rfl rfl rfl rfl (by kernel_rfl) Try.func7 (by kernel_rfl)
    (of_decide_eq_true (by kernel_rfl)) (by unfold Func.isWrapper; first | (rw [if_pos (by decide +kernel)]; kernel_rfl) | (rw [if_neg (by decide +kernel)]; exact ⟨rfl, rfl⟩))
    (fun os started H enc _ => lifted_updownChooses os started H enc)
end Go.Proofs.Ytibpkgopbecfoaa
