/- Chosen paths are legal and shortest; Every two nodes with levels are joined by a legal path that is not too long; For every plan, list of cables that are up, and root: the law's function answers true, and its arguments read as they did. Conditions: none. -/
import Derived.Test.YtibpkgopbecfoaaMG
namespace Go.Proofs.Ytibpkgopbecfoaa
set_option linter.unusedSimpArgs false
set_option linter.unusedVariables false
open Go.RowKit
set_option maxRecDepth 20000

section
variable {p : Pl} {l : List Int} {up : List Bool} {to : Int} {D : St → Int}
theorem edg_acr (hv : validE p = 0) {s t : St} {i : Nat} (hi : i < p.cs.length) (h : EdgJ l p.cs up i s t) : (acrE (p.cs.getD i default) s.1).2 = true ∧ (acrE (p.cs.getD i default) s.1).1 = t.1 :=
  (acr_iff ((valid_of hv).self _ (getD_mem default hi))).1 h.2.1
/-- What can be reached by falling can be reached at most as far by rising. -/
theorem fall_rise (hv : validE p = 0) (hll : l.length = p.ns.length) (hD : DFacts p.ns.length l p.cs up to D) : ∀ (k : Nat) (x : Int), D (x, true) = k → 0 ≤ D (x, false) ∧ D (x, false) ≤ k
  | 0, x, h => by
    have := (hD.zero (x, true)).1 h
    have h2 := (hD.zero (x, false)).2 this
    omega
  | k + 1, x, h => by
    obtain ⟨t, he, hd⟩ := hD.next (x, true) (by omega)
    have hst := edg_stp hll (valid_of hv).cab (valid_of hv).self he
    obtain ⟨i, hi, he⟩ := he
    obtain ⟨e1, e2, e3, e4⟩ := he
    have hs : (!aboveB l t.1 x) = true := by
      rcases hst with ⟨a, _⟩ | ⟨_, b, _⟩
      · rw [e3] at a; exact a
      · simp at b
    have := hD.edge (x, false) t ⟨i, hi, e1, e2, e3, by show (!aboveB l t.1 x || !false) = true; rw [hs]; rfl⟩ (by omega)
    omega
theorem no_back (hv : validE p = 0) (hll : l.length = p.ns.length) (hD : DFacts p.ns.length l p.cs up to D) {r s t : St} {i : Nat} (hi : i < p.cs.length) (h1 : EdgJ l p.cs up i r s) (h2 : EdgJ l p.cs up i s t) (d1 : D s = D r - 1) (d2 : D t = D s - 1) (d0 : 0 ≤ D t) : False := by
  have hne := (valid_of hv).self _ (getD_mem default hi)
  have hte : t.1 = r.1 := by
    rcases h1.2.1 with ⟨a1, a2⟩ | ⟨a1, a2⟩ <;> rcases h2.2.1 with ⟨b1, b2⟩ | ⟨b1, b2⟩
    · exact absurd (b1.symm.trans a2) hne
    · rw [b2, a1]
    · rw [b2, a1]
    · exact absurd (a2.symm.trans b1) hne
  have s1 := edg_stp hll (valid_of hv).cab (valid_of hv).self ⟨i, hi, h1⟩
  have s2 := edg_stp hll (valid_of hv).cab (valid_of hv).self ⟨i, hi, h2⟩
  rw [hte] at s2
  rcases s1 with ⟨a1, a2⟩ | ⟨a1, a2, a3⟩
  · -- downward, and then not upward again
    rcases s2 with ⟨b1, b2⟩ | ⟨b1, b2, b3⟩
    · have x1 := (stp2.1 a2).2
      have x2 := (stp2.1 b2).1
      rw [x1] at x2; simp at x2
    · rw [a1] at b2; simp at b2
  · rcases s2 with ⟨b1, b2⟩ | ⟨b1, b2, b3⟩
    · have ht : t = (r.1, true) := Prod.ext hte b1
      have hr : r = (r.1, false) := Prod.ext rfl a2
      rw [ht] at d0 d2
      have := fall_rise hv hll hD (D (r.1, true)).toNat r.1 (by omega)
      rw [hr] at d1
      omega
    · have x1 := stp1.1 a3
      have x2 := stp1.1 b3
      obtain ⟨n1, n2⟩ := edg_in (valid_of hv).cab hi h1
      rw [above_iff hll n2 n1] at x1
      rw [above_iff hll n1 n2] at x2
      omega
structure Cho (p : Pl) (l : List Int) (up : List Bool) (to : Int) (k : Nat) (s : St) (pr : Option Int) (path ns : List Int) : Prop where
  walk : wlk p.cs s.1 path = some ns
  len : ns.length = k ∧ path.length = k
  cab : path.all (cabB p) = true
  up : ∀ c, c ∈ path → up.getD c.toNat false = true
  lvs : lvs l ns = true
  leg : lgl l p.cs s.1 s.2 pr path = true
  last : (s.1 :: ns).getD k 0 = to
theorem chs_ok (hv : validE p = 0) (hll : l.length = p.ns.length) (ht : inN p.ns.length to) (hD : DFacts p.ns.length l p.cs up to D) : ∀ (k : Nat) (s : St) (pr : Option Int), D s = k → (∀ (i : Nat) (t : St), i < p.cs.length → EdgJ l p.cs up i s t → D t = D s - 1 → 0 ≤ D t → pr ≠ some (i : Int)) → ∃ ns, Cho p l up to k s pr (chs l p.cs up D k s) ns
  | 0, s, pr, hk, _ => ⟨[], rfl, ⟨rfl, rfl⟩, rfl, fun c hc => by simp [chs] at hc, rfl, rfl, ((hD.zero s).1 hk).1⟩
  | k + 1, s, pr, hk, hpr => by
    obtain ⟨i, t, q1, q2, q3, q4, _⟩ := fst_some hv hll ht hD hk (by omega)
    have hch : chs l p.cs up D (k + 1) s = (i : Int) :: chs l p.cs up D k t := by simp only [chs]; rw [q1]
    obtain ⟨ns, h⟩ := chs_ok hv hll ht hD k t (some (i : Int)) (by omega) (fun j u hj he hd h0 e => by
      have hij : j = i := by simp at e; omega
      subst hij
      exact no_back hv hll hD q2 q3 he (by omega) hd h0)
    obtain ⟨a1, a2⟩ := edg_acr hv q2 q3
    have e3 := q3.2.2.1
    have e4 := q3.2.2.2
    rw [hch]
    refine ⟨t.1 :: ns, ?_, ⟨by simp [h.len.1], by simp [h.len.2]⟩, ?_, ?_, ?_, ?_, ?_⟩
    · unfold wlk
      rw [Int.toNat_natCast, if_pos a1, a2, h.walk]; rfl
    · rw [List.all_cons, h.cab]
      unfold cabB
      simp; omega
    · intro c hc
      rcases List.mem_cons.1 hc with rfl | hc
      · rw [Int.toNat_natCast]; exact (edg_lvl q3).2.2
      · exact h.up c hc
    · have := h.lvs
      unfold Proofs.Ytibpkgopbecfoaa.lvs at this ⊢
      rw [List.all_cons, this, decide_eq_true (edg_lvl q3).2.1]; rfl
    · unfold lgl
      rw [Int.toNat_natCast, a2, ← e3, h.leg]
      rw [← e3] at e4
      have hp := hpr i t q2 q3 (by omega) (by omega)
      rw [e4, decide_eq_false hp]; rfl
    · rw [List.getD_cons_succ]; exact h.last
end
theorem fit_of {p : Pl} {l : List Int} {up : List Bool} (h : fitB p l up = true) : validE p = 0 ∧ up.length = p.cs.length ∧ ordB p l = true := by
  unfold fitB at h
  simp only [Bool.and_eq_true, decide_eq_true_eq] at h
  exact ⟨h.2.1, h.2.2.1, h.2.2.2⟩
theorem nodes_cho {p : Pl} (hv : validE p = 0) {l : List Int} {up : List Bool} {to : Int} {k : Nat} {s : St} {pr : Option Int} {path ns : List Int} (hs : nodB p s.1 = true) (h : Cho p l up to k s pr path ns) : nodesE p s.1 path = (s.1 :: ns, 0) := by
  unfold nodesE
  rw [if_pos hv, if_pos hs, if_pos h.cab, h.walk]
theorem ev_lawChooses (p : Pl) (hp : PlOk p) (l : List Int) (up : List Bool) (f to : Int) : Ev Try.prog 7 [plV p, .agg [intsV l], boolsV up, .sc (.int .i64 f), .sc (.int .i64 to)] (.sc (.bool true)) := by
  have h1 := ev_awake18
  have h2 := ev_fit p l up
  have h3 := ev_nodeL p
  have h4 := ev_Dist p hp l up to
  have h5 := ev_path p hp l up f to
  have h6 := ev_nodes p hp f
  have h7 := ev_legal p hp l f
  unfold plV boolsV intsV at *
  refine ev_fn Try.func7 comp7 (show 5 ≤ Try.f7.ntmps by decide) ?_; unfold cf7 rf7; simp only [↓EVP0, EVQ0, EVQ1, EVQ2, EVQ3, EVQ4, EVA, EVK, EVF, ↓reduceIte, Nat.reduceEqDiff, Nat.reduceAdd, Nat.reduceSub, Nat.reduceMul, Nat.reduceLT, Nat.reduceLeDiff, reduceCtorEq, Int.reduceToNat, Int.reduceLT, Int.reduceLE, Int.reduceAdd, Int.reduceSub, Int.reduceMul, Int.reduceNeg, Int.reduceEq, Nat.reduceMod, forall_eq_or_imp, forall_eq, forall_const, cond_true, cond_false, decide_true, decide_false, true_imp_iff, implies_true, Int.cast_ofNat_Int, forall_eq']
  refine callK_ro (h1) ?_ ?_
  · simp only [↓EVP0, EVQ0, EVQ1, EVQ2, EVQ3, EVQ4, EVA, EVK, EVF, ↓reduceIte, Nat.reduceEqDiff, Nat.reduceAdd, Nat.reduceSub, Nat.reduceMul, Nat.reduceLT, Nat.reduceLeDiff, reduceCtorEq, Int.reduceToNat, Int.reduceLT, Int.reduceLE, Int.reduceAdd, Int.reduceSub, Int.reduceMul, Int.reduceNeg, Int.reduceEq, Nat.reduceMod, forall_eq_or_imp, forall_eq, forall_const, cond_true, cond_false, decide_true, decide_false, true_imp_iff, implies_true, Int.cast_ofNat_Int, forall_eq']
  simp only [↓EVP0, EVQ0, EVQ1, EVQ2, EVQ3, EVQ4, EVA, EVK, EVF, ↓reduceIte, Nat.reduceEqDiff, Nat.reduceAdd, Nat.reduceSub, Nat.reduceMul, Nat.reduceLT, Nat.reduceLeDiff, reduceCtorEq, Int.reduceToNat, Int.reduceLT, Int.reduceLE, Int.reduceAdd, Int.reduceSub, Int.reduceMul, Int.reduceNeg, Int.reduceEq, Nat.reduceMod, forall_eq_or_imp, forall_eq, forall_const, cond_true, cond_false, decide_true, decide_false, true_imp_iff, implies_true, Int.cast_ofNat_Int, forall_eq']
  refine callK_ro (h2) ?_ ?_
  · simp only [↓EVP0, EVQ0, EVQ1, EVQ2, EVQ3, EVQ4, EVA, EVK, EVF, ↓reduceIte, Nat.reduceEqDiff, Nat.reduceAdd, Nat.reduceSub, Nat.reduceMul, Nat.reduceLT, Nat.reduceLeDiff, reduceCtorEq, Int.reduceToNat, Int.reduceLT, Int.reduceLE, Int.reduceAdd, Int.reduceSub, Int.reduceMul, Int.reduceNeg, Int.reduceEq, Nat.reduceMod, forall_eq_or_imp, forall_eq, forall_const, cond_true, cond_false, decide_true, decide_false, true_imp_iff, implies_true, Int.cast_ofNat_Int, forall_eq']
  simp only [↓EVP0, EVQ0, EVQ1, EVQ2, EVQ3, EVQ4, EVA, EVK, EVF, ↓reduceIte, Nat.reduceEqDiff, Nat.reduceAdd, Nat.reduceSub, Nat.reduceMul, Nat.reduceLT, Nat.reduceLeDiff, reduceCtorEq, Int.reduceToNat, Int.reduceLT, Int.reduceLE, Int.reduceAdd, Int.reduceSub, Int.reduceMul, Int.reduceNeg, Int.reduceEq, Nat.reduceMod, forall_eq_or_imp, forall_eq, forall_const, cond_true, cond_false, decide_true, decide_false, true_imp_iff, implies_true, Int.cast_ofNat_Int, forall_eq']
  (refine lops_ge_imp ?_; simp only [↓EVP0, EVQ0, EVQ1, EVQ2, EVQ3, EVQ4, EVA, EVK, EVF, ↓reduceIte, Nat.reduceEqDiff, Nat.reduceAdd, Nat.reduceSub, Nat.reduceMul, Nat.reduceLT, Nat.reduceLeDiff, reduceCtorEq, Int.reduceToNat, Int.reduceLT, Int.reduceLE, Int.reduceAdd, Int.reduceSub, Int.reduceMul, Int.reduceNeg, Int.reduceEq, Nat.reduceMod, forall_eq_or_imp, forall_eq, forall_const, cond_true, cond_false, decide_true, decide_false, true_imp_iff, implies_true, Int.cast_ofNat_Int, forall_eq'])
  refine gCallK_ro _ (fun _ => h3 f) (fun _ => ?_) ?_
  · simp only [↓EVP0, EVQ0, EVQ1, EVQ2, EVQ3, EVQ4, EVA, EVK, EVF, ↓reduceIte, Nat.reduceEqDiff, Nat.reduceAdd, Nat.reduceSub, Nat.reduceMul, Nat.reduceLT, Nat.reduceLeDiff, reduceCtorEq, Int.reduceToNat, Int.reduceLT, Int.reduceLE, Int.reduceAdd, Int.reduceSub, Int.reduceMul, Int.reduceNeg, Int.reduceEq, Nat.reduceMod, forall_eq_or_imp, forall_eq, forall_const, cond_true, cond_false, decide_true, decide_false, true_imp_iff, implies_true, Int.cast_ofNat_Int, forall_eq']
  simp only [↓EVP0, EVQ0, EVQ1, EVQ2, EVQ3, EVQ4, EVA, EVK, EVF, ↓reduceIte, Nat.reduceEqDiff, Nat.reduceAdd, Nat.reduceSub, Nat.reduceMul, Nat.reduceLT, Nat.reduceLeDiff, reduceCtorEq, Int.reduceToNat, Int.reduceLT, Int.reduceLE, Int.reduceAdd, Int.reduceSub, Int.reduceMul, Int.reduceNeg, Int.reduceEq, Nat.reduceMod, forall_eq_or_imp, forall_eq, forall_const, cond_true, cond_false, decide_true, decide_false, true_imp_iff, implies_true, Int.cast_ofNat_Int, forall_eq']
  (refine lops_ge_imp ?_; simp only [↓EVP0, EVQ0, EVQ1, EVQ2, EVQ3, EVQ4, EVA, EVK, EVF, ↓reduceIte, Nat.reduceEqDiff, Nat.reduceAdd, Nat.reduceSub, Nat.reduceMul, Nat.reduceLT, Nat.reduceLeDiff, reduceCtorEq, Int.reduceToNat, Int.reduceLT, Int.reduceLE, Int.reduceAdd, Int.reduceSub, Int.reduceMul, Int.reduceNeg, Int.reduceEq, Nat.reduceMod, forall_eq_or_imp, forall_eq, forall_const, cond_true, cond_false, decide_true, decide_false, true_imp_iff, implies_true, Int.cast_ofNat_Int, forall_eq'])
  refine gCallK_ro _ (fun _ => h3 to) (fun _ => ?_) ?_
  · simp only [↓EVP0, EVQ0, EVQ1, EVQ2, EVQ3, EVQ4, EVA, EVK, EVF, ↓reduceIte, Nat.reduceEqDiff, Nat.reduceAdd, Nat.reduceSub, Nat.reduceMul, Nat.reduceLT, Nat.reduceLeDiff, reduceCtorEq, Int.reduceToNat, Int.reduceLT, Int.reduceLE, Int.reduceAdd, Int.reduceSub, Int.reduceMul, Int.reduceNeg, Int.reduceEq, Nat.reduceMod, forall_eq_or_imp, forall_eq, forall_const, cond_true, cond_false, decide_true, decide_false, true_imp_iff, implies_true, Int.cast_ofNat_Int, forall_eq']
  simp only [↓EVP0, EVQ0, EVQ1, EVQ2, EVQ3, EVQ4, EVA, EVK, EVF, ↓reduceIte, Nat.reduceEqDiff, Nat.reduceAdd, Nat.reduceSub, Nat.reduceMul, Nat.reduceLT, Nat.reduceLeDiff, reduceCtorEq, Int.reduceToNat, Int.reduceLT, Int.reduceLE, Int.reduceAdd, Int.reduceSub, Int.reduceMul, Int.reduceNeg, Int.reduceEq, Nat.reduceMod, forall_eq_or_imp, forall_eq, forall_const, cond_true, cond_false, decide_true, decide_false, true_imp_iff, implies_true, Int.cast_ofNat_Int, forall_eq']
  have ec : (bif bif !fitB p l up then true else !nodB p f then true else !nodB p to) = !decide (fitB p l up = true ∧ nodB p f = true ∧ nodB p to = true) := by
    cases fitB p l up <;> cases nodB p f <;> cases nodB p to <;> rfl
  rw [ec]
  refine ⟨fun _ => trivial, fun h => ?_⟩
  have hh : fitB p l up = true ∧ nodB p f = true ∧ nodB p to = true := by simpa using h
  obtain ⟨hfit, hnf, hnt⟩ := hh
  obtain ⟨hv, hup, ho⟩ := fit_of hfit
  have hO := ord_of ho
  have hf := nodB_in hnf
  have ht := nodB_in hnt
  have hD := d_facts (l := l) (cs := p.cs) (up := up) (show p.ns.length ≤ 100 by have := (valid_of hv).n16; omega) (valid_of hv).cab ht
  have ed : distE p l up to = ((dL p.ns.length l p.cs up to false p.ns.length, dL p.ns.length l p.cs up to true p.ns.length), 0) := by
    unfold distE; rw [if_pos ⟨ho, hup⟩, if_pos hnt]
  have ep : pathE p l up f to = if dS p.ns.length l p.cs up to (f, false) = -1 then ([], 12) else (chs l p.cs up (dS p.ns.length l p.cs up to) (dS p.ns.length l p.cs up to (f, false)).toNat (f, false), 0) := by
    unfold pathE; rw [if_pos ⟨ho, hup⟩, if_pos ⟨hnf, hnt⟩]
  have hlo := hD.low (f, false)
  have hf' := hf
  unfold inN at hf'
  have hget : (dL p.ns.length l p.cs up to false p.ns.length).getD f.toNat 0 = dS p.ns.length l p.cs up to (f, false) := by
    rw [dL_get (by omega), show ((f.toNat : Nat) : Int) = f by omega]
  have hlen := dL_len p.ns.length l p.cs up to false p.ns.length
  have h16 := (valid_of hv).n16
  rw [ed] at h4
  rw [ep] at h5
  simp only at h4
  by_cases h0 : dS p.ns.length l p.cs up to (f, false) = -1
  · rw [if_pos h0] at h5
    simp only at h5
    refine callK_ro (h4) ?_ ?_
    · simp only [↓EVP0, EVQ0, EVQ1, EVQ2, EVQ3, EVQ4, EVA, EVK, EVF, ↓reduceIte, Nat.reduceEqDiff, Nat.reduceAdd, Nat.reduceSub, Nat.reduceMul, Nat.reduceLT, Nat.reduceLeDiff, reduceCtorEq, Int.reduceToNat, Int.reduceLT, Int.reduceLE, Int.reduceAdd, Int.reduceSub, Int.reduceMul, Int.reduceNeg, Int.reduceEq, Nat.reduceMod, forall_eq_or_imp, forall_eq, forall_const, cond_true, cond_false, decide_true, decide_false, true_imp_iff, implies_true, Int.cast_ofNat_Int, forall_eq']
    simp only [↓EVP0, EVQ0, EVQ1, EVQ2, EVQ3, EVQ4, EVA, EVK, EVF, ↓reduceIte, Nat.reduceEqDiff, Nat.reduceAdd, Nat.reduceSub, Nat.reduceMul, Nat.reduceLT, Nat.reduceLeDiff, reduceCtorEq, Int.reduceToNat, Int.reduceLT, Int.reduceLE, Int.reduceAdd, Int.reduceSub, Int.reduceMul, Int.reduceNeg, Int.reduceEq, Nat.reduceMod, forall_eq_or_imp, forall_eq, forall_const, cond_true, cond_false, decide_true, decide_false, true_imp_iff, implies_true, Int.cast_ofNat_Int, forall_eq']
    refine callK_ro (h5) ?_ ?_
    · simp only [↓EVP0, EVQ0, EVQ1, EVQ2, EVQ3, EVQ4, EVA, EVK, EVF, ↓reduceIte, Nat.reduceEqDiff, Nat.reduceAdd, Nat.reduceSub, Nat.reduceMul, Nat.reduceLT, Nat.reduceLeDiff, reduceCtorEq, Int.reduceToNat, Int.reduceLT, Int.reduceLE, Int.reduceAdd, Int.reduceSub, Int.reduceMul, Int.reduceNeg, Int.reduceEq, Nat.reduceMod, forall_eq_or_imp, forall_eq, forall_const, cond_true, cond_false, decide_true, decide_false, true_imp_iff, implies_true, Int.cast_ofNat_Int, forall_eq']
    simp only [↓EVP0, EVQ0, EVQ1, EVQ2, EVQ3, EVQ4, EVA, EVK, EVF, ↓reduceIte, Nat.reduceEqDiff, Nat.reduceAdd, Nat.reduceSub, Nat.reduceMul, Nat.reduceLT, Nat.reduceLeDiff, reduceCtorEq, Int.reduceToNat, Int.reduceLT, Int.reduceLE, Int.reduceAdd, Int.reduceSub, Int.reduceMul, Int.reduceNeg, Int.reduceEq, Nat.reduceMod, forall_eq_or_imp, forall_eq, forall_const, cond_true, cond_false, decide_true, decide_false, true_imp_iff, implies_true, Int.cast_ofNat_Int, forall_eq']
    simp only [hlen, hget, h0]
    simp only [↓EVP0, EVQ0, EVQ1, EVQ2, EVQ3, EVQ4, EVA, EVK, EVF, ↓reduceIte, Nat.reduceEqDiff, Nat.reduceAdd, Nat.reduceSub, Nat.reduceMul, Nat.reduceLT, Nat.reduceLeDiff, reduceCtorEq, Int.reduceToNat, Int.reduceLT, Int.reduceLE, Int.reduceAdd, Int.reduceSub, Int.reduceMul, Int.reduceNeg, Int.reduceEq, Nat.reduceMod, forall_eq_or_imp, forall_eq, forall_const, cond_true, cond_false, decide_true, decide_false, true_imp_iff, implies_true, Int.cast_ofNat_Int, forall_eq']
    exact ⟨by omega, by omega⟩
  · rw [if_neg h0] at h5
    simp only at h5
    obtain ⟨ns, hc⟩ := chs_ok hv hO.len ht hD (dS p.ns.length l p.cs up to (f, false)).toNat (f, false) none (by omega) (fun _ _ _ _ _ _ => by simp)
    have hnd := nodes_cho (s := (f, false)) hv hnf hc
    generalize chs l p.cs up (dS p.ns.length l p.cs up to) (dS p.ns.length l p.cs up to (f, false)).toNat (f, false) = path at *
    have hpl : path.length ≤ 1000 := by have := hc.len.2; omega
    have h6' := h6 path hpl
    have h7' := h7 path hpl
    have hleg : legalE p l f path = true := by
      unfold legalE
      rw [ho, hnd]
      have hl1 := hc.lvs
      have hl2 := hc.leg
      have hl3 := hD.lvl (f, false) (by omega)
      simp only at hl3 hl2
      show (true && (decide ((0 : Int) = 0) && (lvs l (f :: ns) && _))) = true
      rw [hl2]
      unfold lvs at hl1 ⊢
      rw [List.all_cons, hl1, decide_eq_true hl3]; rfl
    simp only at hnd
    rw [hnd] at h6'
    rw [hleg] at h7'
    refine callK_ro (h4) ?_ ?_
    · simp only [↓EVP0, EVQ0, EVQ1, EVQ2, EVQ3, EVQ4, EVA, EVK, EVF, ↓reduceIte, Nat.reduceEqDiff, Nat.reduceAdd, Nat.reduceSub, Nat.reduceMul, Nat.reduceLT, Nat.reduceLeDiff, reduceCtorEq, Int.reduceToNat, Int.reduceLT, Int.reduceLE, Int.reduceAdd, Int.reduceSub, Int.reduceMul, Int.reduceNeg, Int.reduceEq, Nat.reduceMod, forall_eq_or_imp, forall_eq, forall_const, cond_true, cond_false, decide_true, decide_false, true_imp_iff, implies_true, Int.cast_ofNat_Int, forall_eq']
    simp only [↓EVP0, EVQ0, EVQ1, EVQ2, EVQ3, EVQ4, EVA, EVK, EVF, ↓reduceIte, Nat.reduceEqDiff, Nat.reduceAdd, Nat.reduceSub, Nat.reduceMul, Nat.reduceLT, Nat.reduceLeDiff, reduceCtorEq, Int.reduceToNat, Int.reduceLT, Int.reduceLE, Int.reduceAdd, Int.reduceSub, Int.reduceMul, Int.reduceNeg, Int.reduceEq, Nat.reduceMod, forall_eq_or_imp, forall_eq, forall_const, cond_true, cond_false, decide_true, decide_false, true_imp_iff, implies_true, Int.cast_ofNat_Int, forall_eq']
    refine callK_ro (h5) ?_ ?_
    · simp only [↓EVP0, EVQ0, EVQ1, EVQ2, EVQ3, EVQ4, EVA, EVK, EVF, ↓reduceIte, Nat.reduceEqDiff, Nat.reduceAdd, Nat.reduceSub, Nat.reduceMul, Nat.reduceLT, Nat.reduceLeDiff, reduceCtorEq, Int.reduceToNat, Int.reduceLT, Int.reduceLE, Int.reduceAdd, Int.reduceSub, Int.reduceMul, Int.reduceNeg, Int.reduceEq, Nat.reduceMod, forall_eq_or_imp, forall_eq, forall_const, cond_true, cond_false, decide_true, decide_false, true_imp_iff, implies_true, Int.cast_ofNat_Int, forall_eq']
    simp only [↓EVP0, EVQ0, EVQ1, EVQ2, EVQ3, EVQ4, EVA, EVK, EVF, ↓reduceIte, Nat.reduceEqDiff, Nat.reduceAdd, Nat.reduceSub, Nat.reduceMul, Nat.reduceLT, Nat.reduceLeDiff, reduceCtorEq, Int.reduceToNat, Int.reduceLT, Int.reduceLE, Int.reduceAdd, Int.reduceSub, Int.reduceMul, Int.reduceNeg, Int.reduceEq, Nat.reduceMod, forall_eq_or_imp, forall_eq, forall_const, cond_true, cond_false, decide_true, decide_false, true_imp_iff, implies_true, Int.cast_ofNat_Int, forall_eq']
    simp only [hlen, hget]
    simp only [↓EVP0, EVQ0, EVQ1, EVQ2, EVQ3, EVQ4, EVA, EVK, EVF, ↓reduceIte, Nat.reduceEqDiff, Nat.reduceAdd, Nat.reduceSub, Nat.reduceMul, Nat.reduceLT, Nat.reduceLeDiff, reduceCtorEq, Int.reduceToNat, Int.reduceLT, Int.reduceLE, Int.reduceAdd, Int.reduceSub, Int.reduceMul, Int.reduceNeg, Int.reduceEq, Nat.reduceMod, forall_eq_or_imp, forall_eq, forall_const, cond_true, cond_false, decide_true, decide_false, true_imp_iff, implies_true, Int.cast_ofNat_Int, forall_eq']
    refine ⟨⟨by omega, by omega⟩, fun h => ?_, fun _ => ?_⟩
    · have := of_decide_eq_true h; omega
    refine callK_ro (h6') ?_ ?_
    · simp only [↓EVP0, EVQ0, EVQ1, EVQ2, EVQ3, EVQ4, EVA, EVK, EVF, ↓reduceIte, Nat.reduceEqDiff, Nat.reduceAdd, Nat.reduceSub, Nat.reduceMul, Nat.reduceLT, Nat.reduceLeDiff, reduceCtorEq, Int.reduceToNat, Int.reduceLT, Int.reduceLE, Int.reduceAdd, Int.reduceSub, Int.reduceMul, Int.reduceNeg, Int.reduceEq, Nat.reduceMod, forall_eq_or_imp, forall_eq, forall_const, cond_true, cond_false, decide_true, decide_false, true_imp_iff, implies_true, Int.cast_ofNat_Int, forall_eq']
    simp only [↓EVP0, EVQ0, EVQ1, EVQ2, EVQ3, EVQ4, EVA, EVK, EVF, ↓reduceIte, Nat.reduceEqDiff, Nat.reduceAdd, Nat.reduceSub, Nat.reduceMul, Nat.reduceLT, Nat.reduceLeDiff, reduceCtorEq, Int.reduceToNat, Int.reduceLT, Int.reduceLE, Int.reduceAdd, Int.reduceSub, Int.reduceMul, Int.reduceNeg, Int.reduceEq, Nat.reduceMod, forall_eq_or_imp, forall_eq, forall_const, cond_true, cond_false, decide_true, decide_false, true_imp_iff, implies_true, Int.cast_ofNat_Int, forall_eq']
    have hn1 := hc.len.1
    have hn2 := hc.len.2
    rw [hlen]
    refine ⟨⟨by omega, by omega⟩, fun _ => by unfold In64; omega, fun _ => by unfold In64; omega, fun _ => ⟨by omega, by omega⟩, ?_⟩
    (refine lops_ge_imp ?_; simp only [↓EVP0, EVQ0, EVQ1, EVQ2, EVQ3, EVQ4, EVA, EVK, EVF, ↓reduceIte, Nat.reduceEqDiff, Nat.reduceAdd, Nat.reduceSub, Nat.reduceMul, Nat.reduceLT, Nat.reduceLeDiff, reduceCtorEq, Int.reduceToNat, Int.reduceLT, Int.reduceLE, Int.reduceAdd, Int.reduceSub, Int.reduceMul, Int.reduceNeg, Int.reduceEq, Nat.reduceMod, forall_eq_or_imp, forall_eq, forall_const, cond_true, cond_false, decide_true, decide_false, true_imp_iff, implies_true, Int.cast_ofNat_Int, forall_eq'])
    refine gCallK_ro _ (fun _ => h7') (fun _ => ?_) ?_
    · simp only [↓EVP0, EVQ0, EVQ1, EVQ2, EVQ3, EVQ4, EVA, EVK, EVF, ↓reduceIte, Nat.reduceEqDiff, Nat.reduceAdd, Nat.reduceSub, Nat.reduceMul, Nat.reduceLT, Nat.reduceLeDiff, reduceCtorEq, Int.reduceToNat, Int.reduceLT, Int.reduceLE, Int.reduceAdd, Int.reduceSub, Int.reduceMul, Int.reduceNeg, Int.reduceEq, Nat.reduceMod, forall_eq_or_imp, forall_eq, forall_const, cond_true, cond_false, decide_true, decide_false, true_imp_iff, implies_true, Int.cast_ofNat_Int, forall_eq']
    simp only [↓EVP0, EVQ0, EVQ1, EVQ2, EVQ3, EVQ4, EVA, EVK, EVF, ↓reduceIte, Nat.reduceEqDiff, Nat.reduceAdd, Nat.reduceSub, Nat.reduceMul, Nat.reduceLT, Nat.reduceLeDiff, reduceCtorEq, Int.reduceToNat, Int.reduceLT, Int.reduceLE, Int.reduceAdd, Int.reduceSub, Int.reduceMul, Int.reduceNeg, Int.reduceEq, Nat.reduceMod, forall_eq_or_imp, forall_eq, forall_const, cond_true, cond_false, decide_true, decide_false, true_imp_iff, implies_true, Int.cast_ofNat_Int, forall_eq']
    rw [hget]
    have hlast := hc.last
    simp only at hlast
    have e1 : (path.length : Int) = dS p.ns.length l p.cs up to (f, false) := by omega
    have e2 : (ns.length : Int) + 1 = (path.length : Int) + 1 := by omega
    have e3 : (f :: ns).getD ((ns.length : Int) + 1 - 1).toNat 0 = to := by
      rw [show ((ns.length : Int) + 1 - 1).toNat = (dS p.ns.length l p.cs up to (f, false)).toNat by omega]; exact hlast
    rw [decide_eq_true e1, decide_eq_true e2, decide_eq_true e3]
    refine ⟨fun h => by simp at h, fun _ => ?_⟩
    intro _
    refine lwp_for (α := Unit) path.length (fun i _ => True) (fun i _ => [(2, .rsl 1 up.length (boolsF up)), (127, .rsl 1 path.length (intsF path)), (128, .sc (.int .i64 path.length)), (129, .sc (.int .i64 i))])
      (fun _ _ => []) () trivial ?_ (fun _ _ => Nat.zero_le _) ?_
    · simp only [↓EVP0, EVQ0, EVQ1, EVQ2, EVQ3, EVQ4, EVA, EVK, EVF, ↓reduceIte, Nat.reduceEqDiff, Nat.reduceAdd, Nat.reduceSub, Nat.reduceMul, Nat.reduceLT, Nat.reduceLeDiff, reduceCtorEq, Int.reduceToNat, Int.reduceLT, Int.reduceLE, Int.reduceAdd, Int.reduceSub, Int.reduceMul, Int.reduceNeg, Int.reduceEq, Nat.reduceMod, forall_eq_or_imp, forall_eq, forall_const, cond_true, cond_false, decide_true, decide_false, true_imp_iff, implies_true, Int.cast_ofNat_Int, forall_eq']
    intro i _ hi _
    unfold lb7_0
    simp only [↓EVP0, EVQ0, EVQ1, EVQ2, EVQ3, EVQ4, EVA, EVK, EVF, ↓reduceIte, Nat.reduceEqDiff, Nat.reduceAdd, Nat.reduceSub, Nat.reduceMul, Nat.reduceLT, Nat.reduceLeDiff, reduceCtorEq, Int.reduceToNat, Int.reduceLT, Int.reduceLE, Int.reduceAdd, Int.reduceSub, Int.reduceMul, Int.reduceNeg, Int.reduceEq, Nat.reduceMod, forall_eq_or_imp, forall_eq, forall_const, cond_true, cond_false, decide_true, decide_false, true_imp_iff, implies_true, Int.cast_ofNat_Int, forall_eq']
    refine ⟨fun hg => ?_, fun hg => ?_⟩
    · have hi2 : i < path.length := by have := of_decide_eq_true hg; omega
      have hm := getD_mem 0 hi2
      have hcab := List.all_eq_true.1 hc.cab _ hm
      have hup2 := hc.up _ hm
      unfold cabB at hcab
      simp only [Bool.and_eq_true, decide_eq_true_eq] at hcab
      generalize path.getD i 0 = c at *
      refine ⟨⟨by omega, by omega⟩, ⟨by omega, by omega⟩, fun h => ?_, fun h => ⟨by unfold In64; omega, hi2, (), trivial⟩⟩
      rw [hup2] at h; simp at h
    · trivial
end Go.Proofs.Ytibpkgopbecfoaa
namespace Go.Proofs.Ytibpkgopbecfoaa
set_option linter.unusedSimpArgs false
set_option linter.unusedVariables false
open Go.RowKit
set_option maxRecDepth 20000

theorem lvl_dist {n : Nat} {U : List Cb} {r x : Int} (hx : inN n x) : lvl (distL n U r) x = distX n U r x := by
  unfold inN at hx
  have := distL_getD (n := n) (U := U) (r := r) (i := x.toNat) (by omega)
  unfold lvl
  rw [this]
  congr 1; omega
theorem distX_zero {n : Nat} {U : List Cb} {r : Int} (hU : CabN n U) (hr : inN n r) (x : Int) : distX n U r x = 0 ↔ x = r := by
  constructor
  · intro h
    rcases distX_cases hU hr x with ⟨h1, _⟩ | ⟨k, h1, _, h3, _⟩
    · omega
    · have : k = 0 := by omega
      subst this
      simpa [W] using h3
  · rintro rfl
    exact distX_of hU hr (k := 0) (by simp [W]) (fun j hj => by omega)
/-- A node with a level above 0 has a neighbour a level nearer. -/
theorem distX_step {n : Nat} {U : List Cb} {r : Int} (hU : CabN n U) (hr : inN n r) {x : Int} (h : 0 < distX n U r x) : ∃ z, nbr U z x ∧ distX n U r z = distX n U r x - 1 := by
  rcases distX_cases hU hr x with ⟨h1, _⟩ | ⟨k, h1, _, h3, h4⟩
  · omega
  · obtain ⟨m, rfl⟩ : ∃ m, k = m + 1 := ⟨k - 1, by omega⟩
    rcases W_succ.1 h3 with h5 | ⟨z, hz, h5⟩
    · rw [h4 m (by omega)] at h5; simp at h5
    · refine ⟨z, hz, ?_⟩
      have : distX n U r z = m := by
        refine distX_of hU hr h5 (fun j hj => ?_)
        cases hj' : W U r j z
        · rfl
        · have := h4 (j + 1) (by omega)
          rw [W_succ.2 (.inr ⟨z, hz, hj'⟩)] at this; simp at this
      rw [this, h1]; omega
theorem countP_range_one (n : Nat) (r : Nat) (hr : r < n) (q : Nat → Bool) (hq : ∀ i, i < n → (q i = true ↔ i = r)) : (List.range n).countP q = 1 := by
  induction n with
  | zero => omega
  | succ n ih =>
    rw [List.range_succ, List.countP_append, List.countP_singleton]
    by_cases e : r = n
    · subst e
      have h0 : (List.range r).countP q = 0 := by
        rw [List.countP_eq_zero]
        intro i hi hqi
        have := (hq i (by have := List.mem_range.1 hi; omega)).1 hqi
        have := List.mem_range.1 hi
        omega
      rw [h0, if_pos ((hq r (by omega)).2 rfl)]
    · rw [ih (by omega) (fun i hi => hq i (by omega)), if_neg]
      intro h
      exact e ((hq n (by omega)).1 h).symm
theorem ord_dist {p : Pl} {up : List Bool} {r : Int} (hv : validE p = 0) (hr : inN p.ns.length r) : ordB p (distL p.ns.length (upU p.cs up) r) = true := by
  have hV := valid_of hv
  have hU := upU_in (n := p.ns.length) (up := up) hV.cab
  unfold ordB
  rw [decide_eq_true hv, decide_eq_true (show (distL p.ns.length (upU p.cs up) r).length = p.ns.length from distL_length)]
  simp only [Bool.true_and, Bool.and_eq_true, List.all_eq_true, List.mem_range, decide_eq_true_eq]
  refine ⟨fun x hx => ?_, ?_, fun i hi => ?_⟩
  · simp only [distL, List.mem_map, List.mem_range] at hx
    obtain ⟨i, hi, rfl⟩ := hx
    unfold rngB
    rcases distX_cases hU hr (i : Int) with ⟨h1, _⟩ | ⟨k, h1, h2, _, _⟩ <;> simp <;> omega
  · unfold distL
    rw [List.countP_map]
    have hr' := hr
    unfold inN at hr'
    refine countP_range_one _ r.toNat (by omega) _ (fun i hi => ?_)
    simp only [Function.comp, isZ, decide_eq_true_eq]
    rw [distX_zero hU hr]
    omega
  · rw [distL_length] at hi
    have hin : inN p.ns.length (i : Int) := ⟨by omega, by omega⟩
    have hgi : (distL p.ns.length (upU p.cs up) r).getD i 0 = distX p.ns.length (upU p.cs up) r i := distL_getD hi
    unfold ledOk
    rw [hgi]
    by_cases h0 : 0 < distX p.ns.length (upU p.cs up) r i
    · obtain ⟨z, hz, hd⟩ := distX_step hU hr h0
      have hzn := (nbr_in hU hz).1
      have : (ledF p (distL p.ns.length (upU p.cs up) r) p.cs.length).getD i false = true := by
        rw [ledF_iff hV.cab i p.cs.length (Nat.le_refl _)]
        obtain ⟨c, hc, hab⟩ := hz
        obtain ⟨j, hj, hu, rfl⟩ := upP_mem.1 hc
        refine ⟨j, hj, ?_⟩
        rcases hab with ⟨ha, hb⟩ | ⟨hb, ha⟩
        · left
          rw [ha, hb, lvl_dist hzn, lvl_dist hin]
          exact ⟨hd, rfl⟩
        · right
          rw [ha, hb, lvl_dist hzn, lvl_dist hin]
          exact ⟨hd, rfl⟩
      rw [this]; simp
    · simp [h0]
section
variable {p : Pl} {up : List Bool} {r to : Int} {D : St → Int}
theorem nbr_edge {n : Nat} {cs : List Cb} {l : List Int} {x y : Int} {b : Bool} (h : nbr (upU cs up) x y) (hx : 0 ≤ lvl l x) (hy : 0 ≤ lvl l y) (hok : (!aboveB l y x || !b) = true) : Edg l cs up (x, b) (y, !aboveB l y x) := by
  obtain ⟨c, hc, hab⟩ := h
  obtain ⟨i, hi, hu, rfl⟩ := upP_mem.1 hc
  refine ⟨i, hi, ?_, ?_, rfl, hok⟩
  · unfold skp
    rw [hu]
    rcases hab with ⟨e1, e2⟩ | ⟨e1, e2⟩ <;> rw [e1, e2] <;> simp <;> omega
  · rcases hab with ⟨e1, e2⟩ | ⟨e1, e2⟩
    · exact .inl ⟨e1.symm, e2.symm⟩
    · exact .inr ⟨e1.symm, e2.symm⟩
theorem edge_nbr {l : List Int} {cs : List Cb} {s t : St} (h : Edg l cs up s t) : nbr (upU cs up) s.1 t.1 := by
  obtain ⟨i, hi, he⟩ := h
  refine ⟨cs.getD i default, upP_mem.2 ⟨i, hi, (edg_lvl he).2.2, rfl⟩, ?_⟩
  rcases he.2.1 with ⟨e1, e2⟩ | ⟨e1, e2⟩
  · exact .inl ⟨e1.symm, e2.symm⟩
  · exact .inr ⟨e1.symm, e2.symm⟩
theorem reach_W {l : List Int} {cs : List Cb} {n : Nat} (hD : DFacts n l cs up to D) : ∀ (k : Nat) (s : St), D s = k → W (upU cs up) to k s.1 = true
  | 0, s, h => by
    have := ((hD.zero s).1 h).1
    unfold W; rw [this]; simp
  | k + 1, s, h => by
    obtain ⟨t, he, hd⟩ := hD.next s (by omega)
    exact W_succ.2 (.inr ⟨t.1, nbr_symm (edge_nbr he), reach_W hD k t (by omega)⟩)
theorem down_len (hv : validE p = 0) (hr : inN p.ns.length r) (ht : inN p.ns.length to) (l : List Int) (hl : l = distL p.ns.length (upU p.cs up) r) (hD : DFacts p.ns.length l p.cs up to D) (h0 : 0 ≤ lvl l to) :
    ∀ (k : Nat) (y : Int), lvl l y = k → inN p.ns.length y → 0 ≤ D (y, true) → 0 ≤ D (r, true) ∧ D (r, true) ≤ D (y, true) + k
  | 0, y, hy, hyi, hd => by
    have hU := upU_in (n := p.ns.length) (up := up) (valid_of hv).cab
    rw [hl, lvl_dist hyi] at hy
    have := (distX_zero hU hr y).1 hy
    subst this
    omega
  | k + 1, y, hy, hyi, hd => by
    have hU := upU_in (n := p.ns.length) (up := up) (valid_of hv).cab
    have hy' := hy
    rw [hl, lvl_dist hyi] at hy'
    obtain ⟨z, hz, hzd⟩ := distX_step hU hr (x := y) (by omega)
    have hzi := (nbr_in hU hz).1
    have hzl : lvl l z = k := by rw [hl, lvl_dist hzi]; omega
    have hll : l.length = p.ns.length := by rw [hl]; exact distL_length
    have hab : aboveB l z y = true := (above_iff hll hzi hyi).2 ⟨by omega, by omega, .inl (by omega)⟩
    have hba : aboveB l y z = false := by
      cases h : aboveB l y z
      · rfl
      · rw [above_iff hll hyi hzi] at h; omega
    have he := nbr_edge (n := p.ns.length) (l := l) (b := true) hz (by omega) (by omega) (by rw [hba]; rfl)
    rw [hba] at he
    have h1 := hD.edge _ _ he hd
    have h2 : 0 ≤ D (z, true) ∧ D (z, true) ≤ D (y, true) + 1 := h1
    have := down_len hv hr ht l hl hD h0 k z hzl hzi h2.1
    omega
theorem up_len (hv : validE p = 0) (hr : inN p.ns.length r) (l : List Int) (hl : l = distL p.ns.length (upU p.cs up) r) (hD : DFacts p.ns.length l p.cs up to D) (B : Int) (hB : 0 ≤ D (r, false) ∧ D (r, false) ≤ B) :
    ∀ (k : Nat) (y : Int), lvl l y = k → inN p.ns.length y → 0 ≤ D (y, false) ∧ D (y, false) ≤ B + k
  | 0, y, hy, hyi => by
    have hU := upU_in (n := p.ns.length) (up := up) (valid_of hv).cab
    rw [hl, lvl_dist hyi] at hy
    have := (distX_zero hU hr y).1 hy
    subst this
    omega
  | k + 1, y, hy, hyi => by
    have hU := upU_in (n := p.ns.length) (up := up) (valid_of hv).cab
    have hy' := hy
    rw [hl, lvl_dist hyi] at hy'
    obtain ⟨z, hz, hzd⟩ := distX_step hU hr (x := y) (by omega)
    have hzi := (nbr_in hU hz).1
    have hzl : lvl l z = k := by rw [hl, lvl_dist hzi]; omega
    have hll : l.length = p.ns.length := by rw [hl]; exact distL_length
    have hab : aboveB l z y = true := (above_iff hll hzi hyi).2 ⟨by omega, by omega, .inl (by omega)⟩
    have he := nbr_edge (n := p.ns.length) (l := l) (b := false) (nbr_symm hz) (by omega) (by omega) (by rw [hab]; rfl)
    rw [hab] at he
    have ih := up_len hv hr l hl hD B hB k z hzl hzi
    have h1 := hD.edge _ _ he ih.1
    have h2 : 0 ≤ D (y, false) ∧ D (y, false) ≤ D (z, false) + 1 := h1
    omega
/-- What the statement says, for one pair of nodes. -/
theorem reach_ok (hv : validE p = 0) (hr : inN p.ns.length r) (ht : inN p.ns.length to) (l : List Int) (hl : l = distL p.ns.length (upU p.cs up) r) (hD : DFacts p.ns.length l p.cs up to D) {x : Int} (hx : inN p.ns.length x) :
    ((lvl l x < 0 ∨ lvl l to < 0) → D (x, false) = -1) ∧ (0 ≤ lvl l x → 0 ≤ lvl l to → distX p.ns.length (upU p.cs up) to x ≤ D (x, false) ∧ 0 ≤ distX p.ns.length (upU p.cs up) to x ∧ D (x, false) ≤ lvl l x + lvl l to) := by
  have hU := upU_in (n := p.ns.length) (up := up) (valid_of hv).cab
  have hll : l.length = p.ns.length := by rw [hl]; exact distL_length
  have hlo := hD.low (x, false)
  constructor
  · intro h
    rcases hlo with h1 | h1
    · exact h1
    · exfalso
      rcases h with h | h
      · have := hD.lvl (x, false) h1.1
        simp only at this; omega
      · have : ∀ (k : Nat) (s : St), D s ≠ k := by
          intro k
          induction k with
          | zero => intro s hs; have := ((hD.zero s).1 hs).2; omega
          | succ k ih =>
            intro s hs
            obtain ⟨t, _, h2⟩ := hD.next s (by omega)
            exact ih t (by omega)
        exact this (D (x, false)).toNat (x, false) (by omega)
  · intro h1 h2
    have z0 : D (to, true) = 0 := (hD.zero (to, true)).2 ⟨rfl, h2⟩
    have a1 := down_len hv hr ht l hl hD h2 (lvl l to).toNat to (by omega) ht (by omega)
    have a2 := fall_rise hv hll hD (D (r, true)).toNat r (by omega)
    have a3 := up_len hv hr l hl hD (lvl l to) ⟨a2.1, by omega⟩ (lvl l x).toNat x (by omega) hx
    have hw := reach_W hD (D (x, false)).toNat (x, false) (by omega)
    simp only at hw
    rcases distX_cases hU ht x with ⟨_, g2⟩ | ⟨k, g1, _, g3, g4⟩
    · rw [g2] at hw; simp at hw
    · have : k ≤ (D (x, false)).toNat := by
        rcases Nat.lt_or_ge (D (x, false)).toNat k with h | h
        · rw [g4 _ h] at hw; simp at hw
        · exact h
      omega
end
theorem of_ok {p : Pl} {up : List Bool} {r : Int} (h : (ofE p up r).2 = 0) : validE p = 0 ∧ up.length = p.cs.length ∧ inN p.ns.length r ∧ ofE p up r = (distL p.ns.length (upU p.cs up) r, 0) := by
  unfold ofE at h ⊢
  cases hu : usableB p up
  · rw [hu] at h; simp at h
  · rw [hu] at h
    cases hr : (decide (r < 0) || decide ((p.ns.length : Int) ≤ r))
    · simp only [usableB, Bool.and_eq_true, decide_eq_true_eq] at hu
      simp at hr
      exact ⟨hu.1, hu.2, ⟨by omega, by omega⟩, rfl⟩
    · rw [hr] at h; simp at h
theorem ev_lawReaches (p : Pl) (hp : PlOk p) (up : List Bool) (r : Int) : Ev Try.prog 12 [plV p, boolsV up, .sc (.int .i64 r)] (.sc (.bool true)) := by
  have h1 := ev_awake18
  have h2 := ev_of p hp up r
  have h3 := fun l => ev_Dist p hp l up
  have h4 := fun x => ev_dists p hp x up
  unfold plV boolsV intsV at *
  refine ev_fn Try.func12 comp12 (show 3 ≤ Try.f12.ntmps by decide) ?_; unfold cf12 rf12; simp only [↓EVP0, EVQ0, EVQ1, EVQ2, EVQ3, EVQ4, EVA, EVK, EVF, ↓reduceIte, Nat.reduceEqDiff, Nat.reduceAdd, Nat.reduceSub, Nat.reduceMul, Nat.reduceLT, Nat.reduceLeDiff, reduceCtorEq, Int.reduceToNat, Int.reduceLT, Int.reduceLE, Int.reduceAdd, Int.reduceSub, Int.reduceMul, Int.reduceNeg, Int.reduceEq, Nat.reduceMod, forall_eq_or_imp, forall_eq, forall_const, cond_true, cond_false, decide_true, decide_false, true_imp_iff, implies_true, Int.cast_ofNat_Int, forall_eq']
  refine callK_ro (h1) ?_ ?_
  · simp only [↓EVP0, EVQ0, EVQ1, EVQ2, EVQ3, EVQ4, EVA, EVK, EVF, ↓reduceIte, Nat.reduceEqDiff, Nat.reduceAdd, Nat.reduceSub, Nat.reduceMul, Nat.reduceLT, Nat.reduceLeDiff, reduceCtorEq, Int.reduceToNat, Int.reduceLT, Int.reduceLE, Int.reduceAdd, Int.reduceSub, Int.reduceMul, Int.reduceNeg, Int.reduceEq, Nat.reduceMod, forall_eq_or_imp, forall_eq, forall_const, cond_true, cond_false, decide_true, decide_false, true_imp_iff, implies_true, Int.cast_ofNat_Int, forall_eq']
  simp only [↓EVP0, EVQ0, EVQ1, EVQ2, EVQ3, EVQ4, EVA, EVK, EVF, ↓reduceIte, Nat.reduceEqDiff, Nat.reduceAdd, Nat.reduceSub, Nat.reduceMul, Nat.reduceLT, Nat.reduceLeDiff, reduceCtorEq, Int.reduceToNat, Int.reduceLT, Int.reduceLE, Int.reduceAdd, Int.reduceSub, Int.reduceMul, Int.reduceNeg, Int.reduceEq, Nat.reduceMod, forall_eq_or_imp, forall_eq, forall_const, cond_true, cond_false, decide_true, decide_false, true_imp_iff, implies_true, Int.cast_ofNat_Int, forall_eq']
  refine fun hnn => ⟨fun _ => trivial, fun hs => ?_⟩
  refine callK_ro (h2) ?_ ?_
  · simp only [↓EVP0, EVQ0, EVQ1, EVQ2, EVQ3, EVQ4, EVA, EVK, EVF, ↓reduceIte, Nat.reduceEqDiff, Nat.reduceAdd, Nat.reduceSub, Nat.reduceMul, Nat.reduceLT, Nat.reduceLeDiff, reduceCtorEq, Int.reduceToNat, Int.reduceLT, Int.reduceLE, Int.reduceAdd, Int.reduceSub, Int.reduceMul, Int.reduceNeg, Int.reduceEq, Nat.reduceMod, forall_eq_or_imp, forall_eq, forall_const, cond_true, cond_false, decide_true, decide_false, true_imp_iff, implies_true, Int.cast_ofNat_Int, forall_eq']
  simp only [↓EVP0, EVQ0, EVQ1, EVQ2, EVQ3, EVQ4, EVA, EVK, EVF, ↓reduceIte, Nat.reduceEqDiff, Nat.reduceAdd, Nat.reduceSub, Nat.reduceMul, Nat.reduceLT, Nat.reduceLeDiff, reduceCtorEq, Int.reduceToNat, Int.reduceLT, Int.reduceLE, Int.reduceAdd, Int.reduceSub, Int.reduceMul, Int.reduceNeg, Int.reduceEq, Nat.reduceMod, forall_eq_or_imp, forall_eq, forall_const, cond_true, cond_false, decide_true, decide_false, true_imp_iff, implies_true, Int.cast_ofNat_Int, forall_eq']
  refine ⟨fun _ => trivial, fun ho => ?_⟩
  have ho2 : (ofE p up r).2 = 0 := by simpa using ho
  obtain ⟨hv, hup, hr, he⟩ := of_ok ho2
  rw [he]
  have hod := ord_dist hv hr (up := up)
  have hO := ord_of hod
  have hs2 : p.ns.length ≤ 8 ∧ p.cs.length ≤ 16 := by
    revert hs
    by_cases a : (8 : Int) < p.ns.length <;> by_cases b : (16 : Int) < p.cs.length <;> simp [a, b] <;> omega
  intro _
  have hdl : (distL p.ns.length (upU p.cs up) r).length = p.ns.length := distL_length
  generalize hl : distL p.ns.length (upU p.cs up) r = l at *
  refine lwp_for (α := Unit) p.ns.length (fun i _ => True) (fun i _ => [(1, .rsl 1 up.length (boolsF up)), (3, .ptr 0 0 0 0 0), (7, .ptr 1 0 0 0 0), (39, .sc (.int .i64 p.ns.length)), (40, .sc (.int .i64 i))])
    (fun i _ => [(0, .box [.rsl 3 p.ns.length (ndsF p.ns), .rsl 6 p.cs.length (cbsF p.cs)]), (0, .box [.rsl 1 l.length (intsF l)])]) () trivial ?_ (fun _ _ => Nat.zero_le _) ?_
  · simp only [↓EVP0, EVQ0, EVQ1, EVQ2, EVQ3, EVQ4, EVA, EVK, EVF, ↓reduceIte, Nat.reduceEqDiff, Nat.reduceAdd, Nat.reduceSub, Nat.reduceMul, Nat.reduceLT, Nat.reduceLeDiff, reduceCtorEq, Int.reduceToNat, Int.reduceLT, Int.reduceLE, Int.reduceAdd, Int.reduceSub, Int.reduceMul, Int.reduceNeg, Int.reduceEq, Nat.reduceMod, forall_eq_or_imp, forall_eq, forall_const, cond_true, cond_false, decide_true, decide_false, true_imp_iff, implies_true, Int.cast_ofNat_Int, forall_eq']
  intro i _ hi _
  unfold lb12_1
  simp only [↓EVP0, EVQ0, EVQ1, EVQ2, EVQ3, EVQ4, EVA, EVK, EVF, ↓reduceIte, Nat.reduceEqDiff, Nat.reduceAdd, Nat.reduceSub, Nat.reduceMul, Nat.reduceLT, Nat.reduceLeDiff, reduceCtorEq, Int.reduceToNat, Int.reduceLT, Int.reduceLE, Int.reduceAdd, Int.reduceSub, Int.reduceMul, Int.reduceNeg, Int.reduceEq, Nat.reduceMod, forall_eq_or_imp, forall_eq, forall_const, cond_true, cond_false, decide_true, decide_false, true_imp_iff, implies_true, Int.cast_ofNat_Int, forall_eq']
  refine ⟨fun g => ?_, fun _ => trivial⟩
  have hi2 : i < p.ns.length := by simpa using g
  refine callK_ro (h3 l (i : Int)) ?_ ?_
  · simp only [↓EVP0, EVQ0, EVQ1, EVQ2, EVQ3, EVQ4, EVA, EVK, EVF, ↓reduceIte, Nat.reduceEqDiff, Nat.reduceAdd, Nat.reduceSub, Nat.reduceMul, Nat.reduceLT, Nat.reduceLeDiff, reduceCtorEq, Int.reduceToNat, Int.reduceLT, Int.reduceLE, Int.reduceAdd, Int.reduceSub, Int.reduceMul, Int.reduceNeg, Int.reduceEq, Nat.reduceMod, forall_eq_or_imp, forall_eq, forall_const, cond_true, cond_false, decide_true, decide_false, true_imp_iff, implies_true, Int.cast_ofNat_Int, forall_eq']
  simp only [↓EVP0, EVQ0, EVQ1, EVQ2, EVQ3, EVQ4, EVA, EVK, EVF, ↓reduceIte, Nat.reduceEqDiff, Nat.reduceAdd, Nat.reduceSub, Nat.reduceMul, Nat.reduceLT, Nat.reduceLeDiff, reduceCtorEq, Int.reduceToNat, Int.reduceLT, Int.reduceLE, Int.reduceAdd, Int.reduceSub, Int.reduceMul, Int.reduceNeg, Int.reduceEq, Nat.reduceMod, forall_eq_or_imp, forall_eq, forall_const, cond_true, cond_false, decide_true, decide_false, true_imp_iff, implies_true, Int.cast_ofNat_Int, forall_eq']
  refine callK_ro (h4 (i : Int)) ?_ ?_
  · simp only [↓EVP0, EVQ0, EVQ1, EVQ2, EVQ3, EVQ4, EVA, EVK, EVF, ↓reduceIte, Nat.reduceEqDiff, Nat.reduceAdd, Nat.reduceSub, Nat.reduceMul, Nat.reduceLT, Nat.reduceLeDiff, reduceCtorEq, Int.reduceToNat, Int.reduceLT, Int.reduceLE, Int.reduceAdd, Int.reduceSub, Int.reduceMul, Int.reduceNeg, Int.reduceEq, Nat.reduceMod, forall_eq_or_imp, forall_eq, forall_const, cond_true, cond_false, decide_true, decide_false, true_imp_iff, implies_true, Int.cast_ofNat_Int, forall_eq']
  simp only [↓EVP0, EVQ0, EVQ1, EVQ2, EVQ3, EVQ4, EVA, EVK, EVF, ↓reduceIte, Nat.reduceEqDiff, Nat.reduceAdd, Nat.reduceSub, Nat.reduceMul, Nat.reduceLT, Nat.reduceLeDiff, reduceCtorEq, Int.reduceToNat, Int.reduceLT, Int.reduceLE, Int.reduceAdd, Int.reduceSub, Int.reduceMul, Int.reduceNeg, Int.reduceEq, Nat.reduceMod, forall_eq_or_imp, forall_eq, forall_const, cond_true, cond_false, decide_true, decide_false, true_imp_iff, implies_true, Int.cast_ofNat_Int, forall_eq']
  have hin : inN p.ns.length (i : Int) := ⟨by omega, by omega⟩
  have hnd : nodB p (i : Int) = true := by unfold nodB; simp; omega
  have ed : distE p l up (i : Int) = ((dL p.ns.length l p.cs up (i : Int) false p.ns.length, dL p.ns.length l p.cs up (i : Int) true p.ns.length), 0) := by
    unfold distE; rw [if_pos ⟨hod, hup⟩, if_pos hnd]
  have eds : distsE p (i : Int) up = distL p.ns.length (upU p.cs up) (i : Int) := by
    unfold distsE usableB
    rw [hv, hup, decide_eq_true (show (0 : Int) ≤ (i : Int) by omega), decide_eq_true (show (i : Int) < p.ns.length by omega)]
    simp
  rw [ed, eds]
  have hdi : (distL p.ns.length (upU p.cs up) (i : Int)).length = p.ns.length := distL_length
  have hdL := dL_len p.ns.length l p.cs up (i : Int) false p.ns.length
  simp only [hdi, hdL, hdl, decide_true, decide_false, Bool.not_true, cond_false]
  refine ⟨fun h => by simp at h, fun _ _ => ?_⟩
  have hD := d_facts (l := l) (cs := p.cs) (up := up) (show p.ns.length ≤ 100 by omega) (valid_of hv).cab hin
  have hok := fun x hx => reach_ok (x := x) hv hr hin l hl.symm hD hx
  have hD0 : ∀ k, k < p.ns.length → (dL p.ns.length l p.cs up (i : Int) false p.ns.length).getD k 0 = dS p.ns.length l p.cs up (i : Int) ((k : Int), false) := fun k hk => dL_get hk
  have hd0 : ∀ k, k < p.ns.length → (distL p.ns.length (upU p.cs up) (i : Int)).getD k 0 = distX p.ns.length (upU p.cs up) (i : Int) (k : Int) := fun k hk => distL_getD hk
  generalize dL p.ns.length l p.cs up (i : Int) false p.ns.length = DD at *
  generalize distL p.ns.length (upU p.cs up) (i : Int) = dd at *
  refine lwp_for (α := Unit) p.ns.length (fun k _ => True) (fun k _ => [(1, .rsl 1 up.length (boolsF up)), (3, .ptr 0 0 0 0 0), (7, .ptr 1 0 0 0 0), (9, .sc (.int .i64 i)), (13, .rsl 1 p.ns.length (intsF dd)), (39, .sc (.int .i64 p.ns.length)), (40, .sc (.int .i64 i)), (81, .rsl 1 p.ns.length (intsF DD)), (82, .sc (.int .i64 p.ns.length)), (83, .sc (.int .i64 k))])
    (fun _ _ => [(0, .box [.rsl 3 p.ns.length (ndsF p.ns), .rsl 6 p.cs.length (cbsF p.cs)]), (0, .box [.rsl 1 l.length (intsF l)])]) () trivial ?_ (fun _ _ => Nat.zero_le _) ?_
  · simp only [↓EVP0, EVQ0, EVQ1, EVQ2, EVQ3, EVQ4, EVA, EVK, EVF, ↓reduceIte, Nat.reduceEqDiff, Nat.reduceAdd, Nat.reduceSub, Nat.reduceMul, Nat.reduceLT, Nat.reduceLeDiff, reduceCtorEq, Int.reduceToNat, Int.reduceLT, Int.reduceLE, Int.reduceAdd, Int.reduceSub, Int.reduceMul, Int.reduceNeg, Int.reduceEq, Nat.reduceMod, forall_eq_or_imp, forall_eq, forall_const, cond_true, cond_false, decide_true, decide_false, true_imp_iff, implies_true, Int.cast_ofNat_Int, forall_eq']
    rw [hdl]
  intro k _ hk _
  unfold lb12_0
  simp only [↓EVP0, EVQ0, EVQ1, EVQ2, EVQ3, EVQ4, EVA, EVK, EVF, ↓reduceIte, Nat.reduceEqDiff, Nat.reduceAdd, Nat.reduceSub, Nat.reduceMul, Nat.reduceLT, Nat.reduceLeDiff, reduceCtorEq, Int.reduceToNat, Int.reduceLT, Int.reduceLE, Int.reduceAdd, Int.reduceSub, Int.reduceMul, Int.reduceNeg, Int.reduceEq, Nat.reduceMod, forall_eq_or_imp, forall_eq, forall_const, cond_true, cond_false, decide_true, decide_false, true_imp_iff, implies_true, Int.cast_ofNat_Int, forall_eq']
  refine ⟨fun g2 => ?_, fun _ => ⟨by unfold In64; omega, hi2, (), trivial⟩⟩
  have hk2 : k < p.ns.length := by simpa using g2
  have ho := hok (k : Int) ⟨by omega, by omega⟩
  have r1 := (ord_of hod).rng (k : Int) ⟨by omega, by omega⟩
  have r2 := (ord_of hod).rng (i : Int) hin
  rw [← hD0 k hk2, ← hd0 k hk2] at ho
  unfold lvl at ho r1 r2
  simp only [Int.toNat_natCast] at ho r1 r2
  generalize DD.getD k 0 = a at *
  generalize dd.getD k 0 = b at *
  generalize l.getD k 0 = x at *
  generalize l.getD i 0 = y at *
  clear hD0 hd0 hok
  by_cases hx : x < 0
  · have := ho.1 (.inl hx)
    refine ⟨by omega, by omega, fun _ => by omega, fun _ => ⟨fun h => ?_, fun _ => ⟨by unfold In64; omega, hk2, (), trivial⟩⟩, fun h => ?_⟩
    · rw [this] at h; simp at h
    · rw [decide_eq_true hx] at h; simp at h
  by_cases hy : y < 0
  · have := ho.1 (.inr hy)
    refine ⟨by omega, by omega, fun _ => by omega, fun _ => ⟨fun h => ?_, fun _ => ⟨by unfold In64; omega, hk2, (), trivial⟩⟩, fun h => ?_⟩
    · rw [this] at h; simp at h
    · rw [decide_eq_false hx, decide_eq_true hy] at h; simp at h
  obtain ⟨o1, o2, o3⟩ := ho.2 (by omega) (by omega)
  rw [decide_eq_false hx, decide_eq_false hy, decide_eq_false (show ¬ a < b by omega), decide_eq_false (show ¬ b < 0 by omega), decide_eq_false (show ¬ x + y < a by omega)]
  refine ⟨by omega, by omega, fun _ => by omega, fun h => by simp at h, fun _ => ⟨by omega, fun _ => by omega, fun _ => by omega, fun _ => by omega, fun _ => by unfold In64; omega, fun h => by simp at h, fun _ => ⟨by unfold In64; omega, hk2, (), trivial⟩⟩⟩
end Go.Proofs.Ytibpkgopbecfoaa
namespace Go.Proofs.Ytibpkgopbecfoaa
set_option linter.unusedSimpArgs false
set_option linter.unusedVariables false
open Go.ChangeShapes Go.WideShapes Go.ChangeAt Go.RowKit

theorem law_updownReaches (lvs : List LV) (h : fitAll Try.prog Try.f12.params.toList lvs) : Ev Try.prog 12 lvs (.sc (.bool true)) := by
  rw [Try.params12] at h
  obtain ⟨a0, l0, rfl, g0, h⟩ := all1 h
  obtain ⟨a1, l1, rfl, g1, h⟩ := all1 h
  obtain ⟨a2, l2, rfl, g2, h⟩ := all1 h
  obtain rfl := all0 h
  obtain ⟨p, ip, hp⟩ := arg_plan g0
  obtain ⟨u, iu, nu⟩ := arg_bools g1
  obtain ⟨r, rfl, hr⟩ := arg_int g2
  exact ev_im (bs := [plV p, boolsV u, .sc (.int .i64 r)]) ⟨ip, iu, Im.refl _, trivial⟩ (ev_lawReaches p hp u r)
set_option maxRecDepth 100000 in
theorem lifted_updownReaches (os : Os) (started : os.Started) (H : Type) (enc : TypeId × Value → H) :
    ReturnsInHanded {} Try.checked os 12 .any (Rows.updownReachesSpec.pre6 enc Try.prog Try.f12 Rows.updownReachesRow.domain false) (Rows.updownReachesSpec.post enc Try.prog Try.f12 false true false false) := by
  refine law_lifted (C := Try.checked) (tb := 4) Try.own' started Try.laidOut' (by kernel_rfl) Try.func12
    (ChangeSpec.witness6 (enc := enc) (C := Try.checked) false ⟨#[], #[.agg #[.slice none 0 0, .slice none 0 0], .slice none 0 0, .int .i64 0], []⟩ 8 (by kernel_rfl) (by kernel_rfl) (by kernel_rfl) (by kernel_rfl))
    (by kernel_rfl) Try.underlying4 rfl (fun ds hd => ?_) (by kernel_rfl) law_updownReaches
  have hd : ds.length = 3 := hd
  match ds, hd with
  | [d1, d2, d3], _ => exact ⟨rfl, rfl, rfl⟩
theorem updownReaches_holds : Rows.UpdownReachesSaid :=
  OpenClaim.holds_of_wide 12 Try.f12 rfl rfl rfl rfl rfl rfl rfl ⟨rfl, rfl, rfl, rfl, rfl⟩ rfl rfl rfl rfl rfl (by kernel_rfl) Try.func12 (by kernel_rfl)
    (of_decide_eq_true (by kernel_rfl)) (by unfold Func.isWrapper; first | (rw [if_pos (by decide +kernel)]; kernel_rfl) | (rw [if_neg (by decide +kernel)]; exact ⟨rfl, rfl⟩))
    (fun os started H enc _ => lifted_updownReaches os started H enc)
end Go.Proofs.Ytibpkgopbecfoaa
