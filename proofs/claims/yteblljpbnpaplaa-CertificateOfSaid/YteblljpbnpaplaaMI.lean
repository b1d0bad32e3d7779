/- Chapter 21: the laws CertificateCheck and CertificateExists; Chapter 21: certificate.Of; Chapter 21: the reference's places and canonical ranks. Conditions: none. -/
import Derived.Test.YteblljpbnpaplaaMH
namespace Go.Proofs.Yteblljpbnpaplaa
set_option linter.unusedSimpArgs false
set_option linter.unusedVariables false
open Go.RowKit
set_option maxRecDepth 20000

end Go.Proofs.Yteblljpbnpaplaa
namespace Go.Proofs.Yteblljpbnpaplaa
set_option linter.unusedSimpArgs false
set_option linter.unusedVariables false
open Go.RowKit
set_option maxRecDepth 20000

def rnkE (L : List Int) (n u v : Int) : Int := bif bif decide (lvl L u < 0) then true else decide (lvl L v < 0) then -1 else bif aboveB L v u then n - 1 - plF L u.toNat else n + plF L v.toNat
theorem plc_getE {L : List Int} {i : Nat} (h : i < L.length) : (plcL L).getD i 0 = plF L i := by
  unfold plcL
  rw [List.getD_eq_getElem?_getD, List.getElem?_map, List.getElem?_range h]; rfl
theorem ev_rank (L : List Int) (n : Int) (hn : 0 ≤ n ∧ n ≤ 1000) (hL : L.length ≤ 1000) (u v : Int) (hu : inN L.length u) (hv : inN L.length v) :
    Ev Try.prog 38 [.sc (.int .i64 u), .sc (.int .i64 v), .rptr [intsV L], .rptr [.sc (.int .i64 n)], .rptr [intsV (plcL L)]] (.sc (.int .i64 (rnkE L n u v))) := by
  have h1 := ev_above L v u
  have hpl : (plcL L).length = L.length := by simp [plcL]
  unfold intsV at *
  unfold inN at hu hv
  refine ev_fn Try.func38 comp38 (show 5 ≤ Try.f38.ntmps by decide) ?_; unfold cf38 rf38; simp only [↓EVP0, EVQ0, EVQ1, EVQ2, EVQ3, EVQ4, EVA, EVK, EVF, ↓reduceIte, Nat.reduceEqDiff, Nat.reduceAdd, Nat.reduceSub, Nat.reduceMul, Nat.reduceLT, Nat.reduceLeDiff, reduceCtorEq, Int.reduceToNat, Int.reduceLT, Int.reduceLE, Int.reduceAdd, Int.reduceSub, Int.reduceMul, Int.reduceNeg, Int.reduceEq, Nat.reduceMod, forall_eq_or_imp, forall_eq, forall_const, cond_true, cond_false, decide_true, decide_false, true_imp_iff, implies_true, Int.cast_ofNat_Int, forall_eq']
  have hPu := plF_le (L := L) (i := u.toNat)
  have hPu2 := plF_lt (L := L) (i := u.toNat)
  have hPv := plF_le (L := L) (i := v.toNat)
  have hPv2 := plF_lt (L := L) (i := v.toNat)
  have hsl := srt_len L
  have gu : (plcL L).getD u.toNat 0 = plF L u.toNat := plc_getE (by omega)
  have gv : (plcL L).getD v.toNat 0 = plF L v.toNat := plc_getE (by omega)
  refine ⟨hu, fun _ => hv, ?_⟩
  cases e : (bif decide (L.getD u.toNat 0 < 0) then true else decide (L.getD v.toNat 0 < 0))
  · refine ⟨fun h => by simp at h, fun _ => ?_⟩
    refine callK_ro (h1) ?_ ?_
    · simp only [↓EVP0, EVQ0, EVQ1, EVQ2, EVQ3, EVQ4, EVA, EVK, EVF, ↓reduceIte, Nat.reduceEqDiff, Nat.reduceAdd, Nat.reduceSub, Nat.reduceMul, Nat.reduceLT, Nat.reduceLeDiff, reduceCtorEq, Int.reduceToNat, Int.reduceLT, Int.reduceLE, Int.reduceAdd, Int.reduceSub, Int.reduceMul, Int.reduceNeg, Int.reduceEq, Nat.reduceMod, forall_eq_or_imp, forall_eq, forall_const, cond_true, cond_false, decide_true, decide_false, true_imp_iff, implies_true, Int.cast_ofNat_Int, forall_eq']
    simp only [↓EVP0, EVQ0, EVQ1, EVQ2, EVQ3, EVQ4, EVA, EVK, EVF, ↓reduceIte, Nat.reduceEqDiff, Nat.reduceAdd, Nat.reduceSub, Nat.reduceMul, Nat.reduceLT, Nat.reduceLeDiff, reduceCtorEq, Int.reduceToNat, Int.reduceLT, Int.reduceLE, Int.reduceAdd, Int.reduceSub, Int.reduceMul, Int.reduceNeg, Int.reduceEq, Nat.reduceMod, forall_eq_or_imp, forall_eq, forall_const, cond_true, cond_false, decide_true, decide_false, true_imp_iff, implies_true, Int.cast_ofNat_Int, forall_eq']
    have hr : rnkE L n u v = bif aboveB L v u then n - 1 - plF L u.toNat else n + plF L v.toNat := by
      unfold rnkE lvl; rw [e]; rfl
    rw [hr, gu, gv, hpl]
    cases ha : aboveB L v u
    · simp only [↓EVP0, EVQ0, EVQ1, EVQ2, EVQ3, EVQ4, EVA, EVK, EVF, ↓reduceIte, Nat.reduceEqDiff, Nat.reduceAdd, Nat.reduceSub, Nat.reduceMul, Nat.reduceLT, Nat.reduceLeDiff, reduceCtorEq, Int.reduceToNat, Int.reduceLT, Int.reduceLE, Int.reduceAdd, Int.reduceSub, Int.reduceMul, Int.reduceNeg, Int.reduceEq, Nat.reduceMod, forall_eq_or_imp, forall_eq, forall_const, cond_true, cond_false, decide_true, decide_false, true_imp_iff, implies_true, Int.cast_ofNat_Int, forall_eq']
      exact ⟨hv, by unfold In64; omega⟩
    · simp only [↓EVP0, EVQ0, EVQ1, EVQ2, EVQ3, EVQ4, EVA, EVK, EVF, ↓reduceIte, Nat.reduceEqDiff, Nat.reduceAdd, Nat.reduceSub, Nat.reduceMul, Nat.reduceLT, Nat.reduceLeDiff, reduceCtorEq, Int.reduceToNat, Int.reduceLT, Int.reduceLE, Int.reduceAdd, Int.reduceSub, Int.reduceMul, Int.reduceNeg, Int.reduceEq, Nat.reduceMod, forall_eq_or_imp, forall_eq, forall_const, cond_true, cond_false, decide_true, decide_false, true_imp_iff, implies_true, Int.cast_ofNat_Int, forall_eq']
      exact ⟨by unfold In64; omega, hu, by unfold In64; omega⟩
  · refine ⟨fun _ => ?_, fun h => by simp at h⟩
    unfold rnkE lvl; rw [e]; rfl
def crkL (p : Pl) (L : List Int) : Nat → List Int
  | 0 => []
  | k + 1 => crkL p L k ++ [rnkE L p.ns.length (p.cs.getD k default).a (p.cs.getD k default).b, rnkE L p.ns.length (p.cs.getD k default).b (p.cs.getD k default).a]
theorem crk_len (p : Pl) (L : List Int) : ∀ k, (crkL p L k).length = 2 * k
  | 0 => rfl
  | k + 1 => by
    unfold crkL
    rw [List.length_append, crk_len p L k]; rfl
def cofE (p : Pl) (L : List Int) : List Int × Int := bif ordB p L then (crkL p L p.cs.length, 0) else ([], 1)
theorem ev_certOf (p : Pl) (hp : PlOk p) (L : List Int) : Ev Try.prog 20 [plV p, .agg [intsV L]] (.tup [intsV (cofE p L).1, .sc (.int .i64 (cofE p L).2)]) := by
  have h1 := ev_ordValid p hp L
  unfold cofE
  unfold plV intsV at *
  refine ev_fn Try.func20 comp20 (show 2 ≤ Try.f20.ntmps by decide) ?_; unfold cf20 rf20; simp only [↓EVP0, EVQ0, EVQ1, EVQ2, EVQ3, EVQ4, EVA, EVK, EVF, ↓reduceIte, Nat.reduceEqDiff, Nat.reduceAdd, Nat.reduceSub, Nat.reduceMul, Nat.reduceLT, Nat.reduceLeDiff, reduceCtorEq, Int.reduceToNat, Int.reduceLT, Int.reduceLE, Int.reduceAdd, Int.reduceSub, Int.reduceMul, Int.reduceNeg, Int.reduceEq, Nat.reduceMod, forall_eq_or_imp, forall_eq, forall_const, cond_true, cond_false, decide_true, decide_false, true_imp_iff, implies_true, Int.cast_ofNat_Int, forall_eq']
  refine callK_ro (h1) ?_ ?_
  · simp only [↓EVP0, EVQ0, EVQ1, EVQ2, EVQ3, EVQ4, EVA, EVK, EVF, ↓reduceIte, Nat.reduceEqDiff, Nat.reduceAdd, Nat.reduceSub, Nat.reduceMul, Nat.reduceLT, Nat.reduceLeDiff, reduceCtorEq, Int.reduceToNat, Int.reduceLT, Int.reduceLE, Int.reduceAdd, Int.reduceSub, Int.reduceMul, Int.reduceNeg, Int.reduceEq, Nat.reduceMod, forall_eq_or_imp, forall_eq, forall_const, cond_true, cond_false, decide_true, decide_false, true_imp_iff, implies_true, Int.cast_ofNat_Int, forall_eq']
  simp only [↓EVP0, EVQ0, EVQ1, EVQ2, EVQ3, EVQ4, EVA, EVK, EVF, ↓reduceIte, Nat.reduceEqDiff, Nat.reduceAdd, Nat.reduceSub, Nat.reduceMul, Nat.reduceLT, Nat.reduceLeDiff, reduceCtorEq, Int.reduceToNat, Int.reduceLT, Int.reduceLE, Int.reduceAdd, Int.reduceSub, Int.reduceMul, Int.reduceNeg, Int.reduceEq, Nat.reduceMod, forall_eq_or_imp, forall_eq, forall_const, cond_true, cond_false, decide_true, decide_false, true_imp_iff, implies_true, Int.cast_ofNat_Int, forall_eq']
  cases ho : ordB p L
  · simp only [↓EVP0, EVQ0, EVQ1, EVQ2, EVQ3, EVQ4, EVA, EVK, EVF, ↓reduceIte, Nat.reduceEqDiff, Nat.reduceAdd, Nat.reduceSub, Nat.reduceMul, Nat.reduceLT, Nat.reduceLeDiff, reduceCtorEq, Int.reduceToNat, Int.reduceLT, Int.reduceLE, Int.reduceAdd, Int.reduceSub, Int.reduceMul, Int.reduceNeg, Int.reduceEq, Nat.reduceMod, forall_eq_or_imp, forall_eq, forall_const, cond_true, cond_false, decide_true, decide_false, true_imp_iff, implies_true, Int.cast_ofNat_Int, forall_eq']
  simp only [↓EVP0, EVQ0, EVQ1, EVQ2, EVQ3, EVQ4, EVA, EVK, EVF, ↓reduceIte, Nat.reduceEqDiff, Nat.reduceAdd, Nat.reduceSub, Nat.reduceMul, Nat.reduceLT, Nat.reduceLeDiff, reduceCtorEq, Int.reduceToNat, Int.reduceLT, Int.reduceLE, Int.reduceAdd, Int.reduceSub, Int.reduceMul, Int.reduceNeg, Int.reduceEq, Nat.reduceMod, forall_eq_or_imp, forall_eq, forall_const, cond_true, cond_false, decide_true, decide_false, true_imp_iff, implies_true, Int.cast_ofNat_Int, forall_eq']
  intro _
  have hob := ho
  unfold ordB at hob
  simp only [Bool.and_eq_true, decide_eq_true_eq] at hob
  obtain ⟨⟨hv, hlen⟩, _, hz, _⟩ := hob
  have hV := valid_of hv
  have hn16 := hV.n16
  have hc32 := hV.c32
  have hne : ndsN L L.length ≠ [] := by
    obtain ⟨x, hx, hx0⟩ := List.countP_pos_iff.1 (show 0 < L.countP isZ by omega)
    obtain ⟨i, hi, rfl⟩ := List.getElem_of_mem hx
    have h0 : L[i] = 0 := of_decide_eq_true hx0
    refine List.ne_nil_of_mem (a := i) (mem_nds.2 ⟨hi, ?_⟩)
    rw [List.getD_eq_getElem?_getD, List.getElem?_eq_getElem hi]
    show 0 ≤ L[i]
    omega
  have h2 := ev_places L (by omega) hne
  have h3 := fun u v hu hv => ev_rank L p.ns.length (by omega) (by omega) u v hu hv
  unfold intsV at h2 h3
  refine callK_ro (h2) ?_ ?_
  · simp only [↓EVP0, EVQ0, EVQ1, EVQ2, EVQ3, EVQ4, EVA, EVK, EVF, ↓reduceIte, Nat.reduceEqDiff, Nat.reduceAdd, Nat.reduceSub, Nat.reduceMul, Nat.reduceLT, Nat.reduceLeDiff, reduceCtorEq, Int.reduceToNat, Int.reduceLT, Int.reduceLE, Int.reduceAdd, Int.reduceSub, Int.reduceMul, Int.reduceNeg, Int.reduceEq, Nat.reduceMod, forall_eq_or_imp, forall_eq, forall_const, cond_true, cond_false, decide_true, decide_false, true_imp_iff, implies_true, Int.cast_ofNat_Int, forall_eq']
  simp only [↓EVP0, EVQ0, EVQ1, EVQ2, EVQ3, EVQ4, EVA, EVK, EVF, ↓reduceIte, Nat.reduceEqDiff, Nat.reduceAdd, Nat.reduceSub, Nat.reduceMul, Nat.reduceLT, Nat.reduceLeDiff, reduceCtorEq, Int.reduceToNat, Int.reduceLT, Int.reduceLE, Int.reduceAdd, Int.reduceSub, Int.reduceMul, Int.reduceNeg, Int.reduceEq, Nat.reduceMod, forall_eq_or_imp, forall_eq, forall_const, cond_true, cond_false, decide_true, decide_false, true_imp_iff, implies_true, Int.cast_ofNat_Int, forall_eq']
  intro _
  refine lwp_for (α := Unit) p.cs.length (fun _ _ => True) (fun k _ => [(8, .fn 38 [.ptr 1 0 0 0 0, .ptr 2 0 0 0 0, .ptr 3 0 0 0 0]), (9, if k = 0 then .nsl else .sl 5 (k - 1) 1 0 (2 * k)), (23, .rsl 6 p.cs.length (cbsF p.cs)), (24, .sc (.int .i64 p.cs.length)), (25, .sc (.int .i64 k))])
    (fun k _ => (0, .box [.rsl 3 p.ns.length (ndsF p.ns), .rsl 6 p.cs.length (cbsF p.cs)]) :: (0, .box [.rsl 1 L.length (intsF L)]) :: (0, .box [.sc (.int .i64 p.ns.length)]) :: (0, .box [.rsl 1 (plcL L).length (intsF (plcL L))]) :: (if k = 0 then [] else [(0, .box (cbsF p.cs 0)), (k - 1, .ints (crkL p L k))])) () trivial ?_ (fun _ _ => Nat.zero_le _) ?_
  · simp only [if_true]
    simp only [↓EVP0, EVQ0, EVQ1, EVQ2, EVQ3, EVQ4, EVA, EVK, EVF, ↓reduceIte, Nat.reduceEqDiff, Nat.reduceAdd, Nat.reduceSub, Nat.reduceMul, Nat.reduceLT, Nat.reduceLeDiff, reduceCtorEq, Int.reduceToNat, Int.reduceLT, Int.reduceLE, Int.reduceAdd, Int.reduceSub, Int.reduceMul, Int.reduceNeg, Int.reduceEq, Nat.reduceMod, forall_eq_or_imp, forall_eq, forall_const, cond_true, cond_false, decide_true, decide_false, true_imp_iff, implies_true, Int.cast_ofNat_Int, forall_eq']
  intro k _ hk _
  by_cases hk2 : k < p.cs.length
  · have hkd : decide ((k : Int) < p.cs.length) = true := decide_eq_true (by omega)
    have kk : 0 ≤ (k : Int) ∧ (k : Int) < p.cs.length := by omega
    have kI : In64 ((k : Int) + 1) := by unfold In64; omega
    have hcm := hV.cab _ (getD_mem default hk2)
    rw [← hlen] at hcm
    have h4 := h3 (p.cs.getD k default).a (p.cs.getD k default).b hcm.1 hcm.2
    have h5 := h3 (p.cs.getD k default).b (p.cs.getD k default).a hcm.2 hcm.1
    have hcl := crk_len p L k
    have hcs : crkL p L (k + 1) = crkL p L k ++ [rnkE L p.ns.length (p.cs.getD k default).a (p.cs.getD k default).b, rnkE L p.ns.length (p.cs.getD k default).b (p.cs.getD k default).a] := rfl
    by_cases h0 : k = 0
    · subst h0
      rw [if_pos rfl, if_pos rfl, if_neg (by omega), if_neg (by omega)]
      unfold lb20_0
      simp only [↓EVP0, EVQ0, EVQ1, EVQ2, EVQ3, EVQ4, EVA, EVK, EVF, ↓reduceIte, Nat.reduceEqDiff, Nat.reduceAdd, Nat.reduceSub, Nat.reduceMul, Nat.reduceLT, Nat.reduceLeDiff, reduceCtorEq, Int.reduceToNat, Int.reduceLT, Int.reduceLE, Int.reduceAdd, Int.reduceSub, Int.reduceMul, Int.reduceNeg, Int.reduceEq, Nat.reduceMod, forall_eq_or_imp, forall_eq, forall_const, cond_true, cond_false, decide_true, decide_false, true_imp_iff, implies_true, Int.cast_ofNat_Int, forall_eq']
      refine ⟨fun _ => ⟨by omega, ?_⟩, fun h => by have := of_decide_eq_false h; omega⟩
      refine lopsQ_calvI ?_
      simp only [↓EVP0, EVQ0, EVQ1, EVQ2, EVQ3, EVQ4, EVA, EVK, EVF, ↓reduceIte, Nat.reduceEqDiff, Nat.reduceAdd, Nat.reduceSub, Nat.reduceMul, Nat.reduceLT, Nat.reduceLeDiff, reduceCtorEq, Int.reduceToNat, Int.reduceLT, Int.reduceLE, Int.reduceAdd, Int.reduceSub, Int.reduceMul, Int.reduceNeg, Int.reduceEq, Nat.reduceMod, forall_eq_or_imp, forall_eq, forall_const, cond_true, cond_false, decide_true, decide_false, true_imp_iff, implies_true, Int.cast_ofNat_Int, forall_eq']
      refine ⟨by kernel_rfl, qCallK_frzF h4 ⟨roToF_self trivial, roToF_self trivial, roTo2_box (by simp [mkH]) rfl ⟨⟨rfl, trivial⟩, trivial⟩, roTo2_box (by simp [mkH]) rfl ⟨⟨rfl, trivial⟩, trivial⟩, roTo2_box (by simp [mkH]) rfl ⟨⟨rfl, trivial⟩, trivial⟩, trivial⟩ trivial ?_⟩
      simp only [↓EVP0, EVQ0, EVQ1, EVQ2, EVQ3, EVQ4, EVA, EVK, EVF, ↓reduceIte, Nat.reduceEqDiff, Nat.reduceAdd, Nat.reduceSub, Nat.reduceMul, Nat.reduceLT, Nat.reduceLeDiff, reduceCtorEq, Int.reduceToNat, Int.reduceLT, Int.reduceLE, Int.reduceAdd, Int.reduceSub, Int.reduceMul, Int.reduceNeg, Int.reduceEq, Nat.reduceMod, forall_eq_or_imp, forall_eq, forall_const, cond_true, cond_false, decide_true, decide_false, true_imp_iff, implies_true, Int.cast_ofNat_Int, forall_eq']
      refine lopsQ_calvI ?_
      simp only [↓EVP0, EVQ0, EVQ1, EVQ2, EVQ3, EVQ4, EVA, EVK, EVF, ↓reduceIte, Nat.reduceEqDiff, Nat.reduceAdd, Nat.reduceSub, Nat.reduceMul, Nat.reduceLT, Nat.reduceLeDiff, reduceCtorEq, Int.reduceToNat, Int.reduceLT, Int.reduceLE, Int.reduceAdd, Int.reduceSub, Int.reduceMul, Int.reduceNeg, Int.reduceEq, Nat.reduceMod, forall_eq_or_imp, forall_eq, forall_const, cond_true, cond_false, decide_true, decide_false, true_imp_iff, implies_true, Int.cast_ofNat_Int, forall_eq']
      refine ⟨by kernel_rfl, qCallK_frzF h5 ⟨roToF_self trivial, roToF_self trivial, roTo2_box (by simp [mkH]) rfl ⟨⟨rfl, trivial⟩, trivial⟩, roTo2_box (by simp [mkH]) rfl ⟨⟨rfl, trivial⟩, trivial⟩, roTo2_box (by simp [mkH]) rfl ⟨⟨rfl, trivial⟩, trivial⟩, trivial⟩ trivial ?_⟩
      simp only [↓EVP0, EVQ0, EVQ1, EVQ2, EVQ3, EVQ4, EVA, EVK, EVF, ↓reduceIte, Nat.reduceEqDiff, Nat.reduceAdd, Nat.reduceSub, Nat.reduceMul, Nat.reduceLT, Nat.reduceLeDiff, reduceCtorEq, Int.reduceToNat, Int.reduceLT, Int.reduceLE, Int.reduceAdd, Int.reduceSub, Int.reduceMul, Int.reduceNeg, Int.reduceEq, Nat.reduceMod, forall_eq_or_imp, forall_eq, forall_const, cond_true, cond_false, decide_true, decide_false, true_imp_iff, implies_true, Int.cast_ofNat_Int, forall_eq']
      refine ⟨intsF [rnkE L p.ns.length (p.cs.getD 0 default).a (p.cs.getD 0 default).b, rnkE L p.ns.length (p.cs.getD 0 default).b (p.cs.getD 0 default).a], fun i hi => ?_, fun _ _ => trivial, by unfold appRoom; omega, by unfold In64; omega, hk2, (), rfl⟩
      match i, hi with
      | 0, _ => rfl
      | 1, _ => rfl
      | i + 2, hi => omega
    · rw [if_neg h0, if_neg h0, if_neg (by omega), if_neg (by omega)]
      unfold lb20_0
      simp only [hkd, ↓EVP0, EVQ0, EVQ1, EVQ2, EVQ3, EVQ4, EVA, EVK, EVF, ↓reduceIte, Nat.reduceEqDiff, Nat.reduceAdd, Nat.reduceSub, Nat.reduceMul, Nat.reduceLT, Nat.reduceLeDiff, reduceCtorEq, Int.reduceToNat, Int.reduceLT, Int.reduceLE, Int.reduceAdd, Int.reduceSub, Int.reduceMul, Int.reduceNeg, Int.reduceEq, Nat.reduceMod, forall_eq_or_imp, forall_eq, forall_const, cond_true, cond_false, decide_true, decide_false, true_imp_iff, implies_true, Int.cast_ofNat_Int, forall_eq']
      refine ⟨kk, ?_⟩
      refine lopsQ_calvI ?_
      simp only [↓EVP0, EVQ0, EVQ1, EVQ2, EVQ3, EVQ4, EVA, EVK, EVF, ↓reduceIte, Nat.reduceEqDiff, Nat.reduceAdd, Nat.reduceSub, Nat.reduceMul, Nat.reduceLT, Nat.reduceLeDiff, reduceCtorEq, Int.reduceToNat, Int.reduceLT, Int.reduceLE, Int.reduceAdd, Int.reduceSub, Int.reduceMul, Int.reduceNeg, Int.reduceEq, Nat.reduceMod, forall_eq_or_imp, forall_eq, forall_const, cond_true, cond_false, decide_true, decide_false, true_imp_iff, implies_true, Int.cast_ofNat_Int, forall_eq']
      refine ⟨by kernel_rfl, qCallK_frzF h4 ⟨roToF_self trivial, roToF_self trivial, roTo2_box (by simp [mkH]) rfl ⟨⟨rfl, trivial⟩, trivial⟩, roTo2_box (by simp [mkH]) rfl ⟨⟨rfl, trivial⟩, trivial⟩, roTo2_box (by simp [mkH]) rfl ⟨⟨rfl, trivial⟩, trivial⟩, trivial⟩ trivial ?_⟩
      simp only [↓EVP0, EVQ0, EVQ1, EVQ2, EVQ3, EVQ4, EVA, EVK, EVF, ↓reduceIte, Nat.reduceEqDiff, Nat.reduceAdd, Nat.reduceSub, Nat.reduceMul, Nat.reduceLT, Nat.reduceLeDiff, reduceCtorEq, Int.reduceToNat, Int.reduceLT, Int.reduceLE, Int.reduceAdd, Int.reduceSub, Int.reduceMul, Int.reduceNeg, Int.reduceEq, Nat.reduceMod, forall_eq_or_imp, forall_eq, forall_const, cond_true, cond_false, decide_true, decide_false, true_imp_iff, implies_true, Int.cast_ofNat_Int, forall_eq']
      refine lopsQ_calvI ?_
      simp only [↓EVP0, EVQ0, EVQ1, EVQ2, EVQ3, EVQ4, EVA, EVK, EVF, ↓reduceIte, Nat.reduceEqDiff, Nat.reduceAdd, Nat.reduceSub, Nat.reduceMul, Nat.reduceLT, Nat.reduceLeDiff, reduceCtorEq, Int.reduceToNat, Int.reduceLT, Int.reduceLE, Int.reduceAdd, Int.reduceSub, Int.reduceMul, Int.reduceNeg, Int.reduceEq, Nat.reduceMod, forall_eq_or_imp, forall_eq, forall_const, cond_true, cond_false, decide_true, decide_false, true_imp_iff, implies_true, Int.cast_ofNat_Int, forall_eq']
      refine ⟨by kernel_rfl, qCallK_frzF h5 ⟨roToF_self trivial, roToF_self trivial, roTo2_box (by simp [mkH]) rfl ⟨⟨rfl, trivial⟩, trivial⟩, roTo2_box (by simp [mkH]) rfl ⟨⟨rfl, trivial⟩, trivial⟩, roTo2_box (by simp [mkH]) rfl ⟨⟨rfl, trivial⟩, trivial⟩, trivial⟩ trivial ?_⟩
      simp only [↓EVP0, EVQ0, EVQ1, EVQ2, EVQ3, EVQ4, EVA, EVK, EVF, ↓reduceIte, Nat.reduceEqDiff, Nat.reduceAdd, Nat.reduceSub, Nat.reduceMul, Nat.reduceLT, Nat.reduceLeDiff, reduceCtorEq, Int.reduceToNat, Int.reduceLT, Int.reduceLE, Int.reduceAdd, Int.reduceSub, Int.reduceMul, Int.reduceNeg, Int.reduceEq, Nat.reduceMod, forall_eq_or_imp, forall_eq, forall_const, cond_true, cond_false, decide_true, decide_false, true_imp_iff, implies_true, Int.cast_ofNat_Int, forall_eq']
      refine ⟨intsF [rnkE L p.ns.length (p.cs.getD k default).a (p.cs.getD k default).b, rnkE L p.ns.length (p.cs.getD k default).b (p.cs.getD k default).a], fun i hi => ?_, fun _ _ => trivial, by omega, by unfold appRoom; omega, kI, hk2, (), ?_, by omega, ?_⟩
      · match i, hi with
        | 0, _ => rfl
        | 1, _ => rfl
        | i + 2, hi => omega
      · rw [show k - 1 + 1 = k + 1 - 1 by omega]; rfl
      · rw [List.take_of_length_le (by omega)]; rfl
  · obtain rfl : k = p.cs.length := by omega
    have hkd : decide ((p.cs.length : Int) < p.cs.length) = false := decide_eq_false (by omega)
    have hcl := crk_len p L p.cs.length
    by_cases h0 : p.cs.length = 0
    · rw [if_pos h0, if_pos h0]
      unfold lb20_0
      simp only [hkd, ↓EVP0, EVQ0, EVQ1, EVQ2, EVQ3, EVQ4, EVA, EVK, EVF, ↓reduceIte, Nat.reduceEqDiff, Nat.reduceAdd, Nat.reduceSub, Nat.reduceMul, Nat.reduceLT, Nat.reduceLeDiff, reduceCtorEq, Int.reduceToNat, Int.reduceLT, Int.reduceLE, Int.reduceAdd, Int.reduceSub, Int.reduceMul, Int.reduceNeg, Int.reduceEq, Nat.reduceMod, forall_eq_or_imp, forall_eq, forall_const, cond_true, cond_false, decide_true, decide_false, true_imp_iff, implies_true, Int.cast_ofNat_Int, forall_eq']
      omega
    · rw [if_neg h0, if_neg h0]
      unfold lb20_0
      simp only [hkd, ↓EVP0, EVQ0, EVQ1, EVQ2, EVQ3, EVQ4, EVA, EVK, EVF, ↓reduceIte, Nat.reduceEqDiff, Nat.reduceAdd, Nat.reduceSub, Nat.reduceMul, Nat.reduceLT, Nat.reduceLeDiff, reduceCtorEq, Int.reduceToNat, Int.reduceLT, Int.reduceLE, Int.reduceAdd, Int.reduceSub, Int.reduceMul, Int.reduceNeg, Int.reduceEq, Nat.reduceMod, forall_eq_or_imp, forall_eq, forall_const, cond_true, cond_false, decide_true, decide_false, true_imp_iff, implies_true, Int.cast_ofNat_Int, forall_eq']
      exact ⟨hcl, by omega⟩
end Go.Proofs.Yteblljpbnpaplaa
namespace Go.Proofs.Yteblljpbnpaplaa
set_option linter.unusedSimpArgs false
set_option linter.unusedVariables false
open Go.RowKit
set_option maxRecDepth 20000

theorem count_pre {α : Type} (S : List α) (q : α → Bool) : ∀ (t : Nat), t ≤ S.length → (∀ x (h : x < S.length), q S[x] = decide (x < t)) → S.countP q = t := by
  induction S with
  | nil => intro t h _; simp at h; simp [h]
  | cons a r ih =>
    intro t ht hq
    have h0 := hq 0 (by simp)
    simp only [List.getElem_cons_zero] at h0
    cases t with
    | zero =>
      have := ih 0 (Nat.zero_le _) fun x hx => by have := hq (x + 1) (by simpa using hx); simpa using this
      rw [List.countP_cons, this, h0]; simp
    | succ t =>
      have := ih t (by simpa using ht) fun x hx => by
        have := hq (x + 1) (by simpa using hx)
        simpa using this
      rw [List.countP_cons, this, h0]; simp
theorem above_ltE {L : List Int} {i k : Nat} (hi : i < L.length) (hk : k < L.length) : aboveB L (i : Int) (k : Int) = (decide (0 ≤ L.getD i 0) && (decide (0 ≤ L.getD k 0) && ltN L i k)) := by
  unfold aboveB hasB ltN
  rw [decide_eq_true (show 0 ≤ (i : Int) by omega), decide_eq_true (show 0 ≤ (k : Int) by omega), decide_eq_true (show (i : Int) < L.length by omega), decide_eq_true (show (k : Int) < L.length by omega)]
  simp only [Bool.true_and, Int.toNat_natCast]
  rw [show decide ((i : Int) < (k : Int)) = decide (i < k) from decide_eq_decide.2 (by omega)]
theorem place_count {L : List Int} {k : Nat} (hk : k < L.length) (h0 : 0 ≤ L.getD k 0) : ((List.range L.length).countP fun i : Nat => aboveB L (i : Int) (k : Int)) = (plF L k).toNat := by
  have hks : k ∈ srtN L := srt_mem.2 ⟨hk, h0⟩
  have e1 : ((List.range L.length).countP fun i : Nat => aboveB L (i : Int) (k : Int)) = (ndsN L L.length).countP fun i => ltN L i k := by
    unfold ndsN
    rw [List.countP_filter]
    refine List.countP_congr fun i hi => ?_
    have hi2 := List.mem_range.1 hi
    rw [above_ltE hi2 hk, decide_eq_true h0, Bool.true_and, Bool.and_comm]
  rw [e1, ← (srt_perm L).countP_eq]
  have hpl := plF_lt (L := L) (i := k)
  have hpn : 0 ≤ plF L k := by rw [plF_yes hks]; omega
  refine count_pre _ _ _ (by omega) fun x hx => ?_
  have hm := List.getElem_mem hx
  have := plF_ord hm hks
  rw [plF_get hx] at this
  by_cases e : x < (plF L k).toNat
  · rw [decide_eq_true e]; exact this.1 (by omega)
  · rw [decide_eq_false e, Bool.eq_false_iff]
    intro h; have := this.2 h; omega
theorem ev_place (L : List Int) (hL : L.length ≤ 1000) (u : Int) (hu : inN L.length u) : Ev Try.prog 45 [intsV L, .sc (.int .i64 u)] (.sc (.int .i64 (plF L u.toNat))) := by
  have h1 := fun i => ev_refAbove L i u
  obtain ⟨k, rfl⟩ := Int.eq_ofNat_of_zero_le hu.1
  have hk : k < L.length := by have := hu.2; omega
  unfold intsV at *
  refine ev_fn Try.func45 comp45 (show 2 ≤ Try.f45.ntmps by decide) ?_; unfold cf45 rf45; simp only [↓EVP0, EVQ0, EVQ1, EVQ2, EVQ3, EVQ4, EVA, EVK, EVF, ↓reduceIte, Nat.reduceEqDiff, Nat.reduceAdd, Nat.reduceSub, Nat.reduceMul, Nat.reduceLT, Nat.reduceLeDiff, reduceCtorEq, Int.reduceToNat, Int.reduceLT, Int.reduceLE, Int.reduceAdd, Int.reduceSub, Int.reduceMul, Int.reduceNeg, Int.reduceEq, Nat.reduceMod, forall_eq_or_imp, forall_eq, forall_const, cond_true, cond_false, decide_true, decide_false, true_imp_iff, implies_true, Int.cast_ofNat_Int, forall_eq']
  have kk : 0 ≤ (k : Int) ∧ (k : Int) < L.length := by omega
  refine ⟨kk, fun h => ?_, fun h => ?_⟩
  · have h0 := of_decide_eq_true h
    rw [plF_no (fun hm => by have := (srt_mem.1 hm).2; omega)]
  have h0 : 0 ≤ L.getD k 0 := by have := of_decide_eq_false h; omega
  have hpc := place_count hk h0
  have hpn : 0 ≤ plF L k := by rw [plF_yes (srt_mem.2 ⟨hk, h0⟩)]; omega
  refine lwp_for (α := Unit) L.length (fun _ _ => True) (fun i _ => [(0, .rsl 1 L.length (intsF L)), (1, .sc (.int .i64 k)), (5, .sc (.int .i64 ((List.range i).countP fun i : Nat => aboveB L (i : Int) (k : Int)))), (6, .sc (.int .i64 i))]) (fun _ _ => []) () trivial ?_ (fun _ _ => Nat.zero_le _) ?_
  · simp only [↓EVP0, EVQ0, EVQ1, EVQ2, EVQ3, EVQ4, EVA, EVK, EVF, ↓reduceIte, Nat.reduceEqDiff, Nat.reduceAdd, Nat.reduceSub, Nat.reduceMul, Nat.reduceLT, Nat.reduceLeDiff, reduceCtorEq, Int.reduceToNat, Int.reduceLT, Int.reduceLE, Int.reduceAdd, Int.reduceSub, Int.reduceMul, Int.reduceNeg, Int.reduceEq, Nat.reduceMod, forall_eq_or_imp, forall_eq, forall_const, cond_true, cond_false, decide_true, decide_false, true_imp_iff, implies_true, Int.cast_ofNat_Int, forall_eq']
    rfl
  intro i _ hi _
  have hcl : ((List.range i).countP fun i : Nat => aboveB L (i : Int) (k : Int)) ≤ i := Nat.le_trans List.countP_le_length (by simp)
  have hcs : ((List.range (i + 1)).countP fun i : Nat => aboveB L (i : Int) (k : Int)) = ((List.range i).countP fun i : Nat => aboveB L (i : Int) (k : Int)) + (if aboveB L (i : Int) (k : Int) = true then 1 else 0) := by
    rw [List.range_succ, List.countP_append, List.countP_singleton]
  by_cases hi2 : i < L.length
  · have hid : decide ((i : Int) < L.length) = true := decide_eq_true (by omega)
    have h2 := h1 (i : Int)
    rw [hcs]
    generalize ((List.range i).countP fun i : Nat => aboveB L (i : Int) (k : Int)) = c at *
    unfold lb45_0
    simp only [hid, ↓EVP0, EVQ0, EVQ1, EVQ2, EVQ3, EVQ4, EVA, EVK, EVF, ↓reduceIte, Nat.reduceEqDiff, Nat.reduceAdd, Nat.reduceSub, Nat.reduceMul, Nat.reduceLT, Nat.reduceLeDiff, reduceCtorEq, Int.reduceToNat, Int.reduceLT, Int.reduceLE, Int.reduceAdd, Int.reduceSub, Int.reduceMul, Int.reduceNeg, Int.reduceEq, Nat.reduceMod, forall_eq_or_imp, forall_eq, forall_const, cond_true, cond_false, decide_true, decide_false, true_imp_iff, implies_true, Int.cast_ofNat_Int, forall_eq']
    intro _
    refine callK_ro (h2) ?_ ?_
    · simp only [↓EVP0, EVQ0, EVQ1, EVQ2, EVQ3, EVQ4, EVA, EVK, EVF, ↓reduceIte, Nat.reduceEqDiff, Nat.reduceAdd, Nat.reduceSub, Nat.reduceMul, Nat.reduceLT, Nat.reduceLeDiff, reduceCtorEq, Int.reduceToNat, Int.reduceLT, Int.reduceLE, Int.reduceAdd, Int.reduceSub, Int.reduceMul, Int.reduceNeg, Int.reduceEq, Nat.reduceMod, forall_eq_or_imp, forall_eq, forall_const, cond_true, cond_false, decide_true, decide_false, true_imp_iff, implies_true, Int.cast_ofNat_Int, forall_eq']
    simp only [↓EVP0, EVQ0, EVQ1, EVQ2, EVQ3, EVQ4, EVA, EVK, EVF, ↓reduceIte, Nat.reduceEqDiff, Nat.reduceAdd, Nat.reduceSub, Nat.reduceMul, Nat.reduceLT, Nat.reduceLeDiff, reduceCtorEq, Int.reduceToNat, Int.reduceLT, Int.reduceLE, Int.reduceAdd, Int.reduceSub, Int.reduceMul, Int.reduceNeg, Int.reduceEq, Nat.reduceMod, forall_eq_or_imp, forall_eq, forall_const, cond_true, cond_false, decide_true, decide_false, true_imp_iff, implies_true, Int.cast_ofNat_Int, forall_eq']
    cases hab : aboveB L (i : Int) (k : Int)
    · simp only [↓EVP0, EVQ0, EVQ1, EVQ2, EVQ3, EVQ4, EVA, EVK, EVF, ↓reduceIte, Nat.reduceEqDiff, Nat.reduceAdd, Nat.reduceSub, Nat.reduceMul, Nat.reduceLT, Nat.reduceLeDiff, reduceCtorEq, Int.reduceToNat, Int.reduceLT, Int.reduceLE, Int.reduceAdd, Int.reduceSub, Int.reduceMul, Int.reduceNeg, Int.reduceEq, Nat.reduceMod, forall_eq_or_imp, forall_eq, forall_const, cond_true, cond_false, decide_true, decide_false, true_imp_iff, implies_true, Int.cast_ofNat_Int, forall_eq']
      exact ⟨by unfold In64; omega, hi2, (), by omega⟩
    · simp only [↓EVP0, EVQ0, EVQ1, EVQ2, EVQ3, EVQ4, EVA, EVK, EVF, ↓reduceIte, Nat.reduceEqDiff, Nat.reduceAdd, Nat.reduceSub, Nat.reduceMul, Nat.reduceLT, Nat.reduceLeDiff, reduceCtorEq, Int.reduceToNat, Int.reduceLT, Int.reduceLE, Int.reduceAdd, Int.reduceSub, Int.reduceMul, Int.reduceNeg, Int.reduceEq, Nat.reduceMod, forall_eq_or_imp, forall_eq, forall_const, cond_true, cond_false, decide_true, decide_false, true_imp_iff, implies_true, Int.cast_ofNat_Int, forall_eq']
      exact ⟨by unfold In64; omega, by unfold In64; omega, hi2, (), trivial⟩
  · obtain rfl : i = L.length := by omega
    have hid : decide ((L.length : Int) < L.length) = false := decide_eq_false (by omega)
    unfold lb45_0
    simp only [hid, ↓EVP0, EVQ0, EVQ1, EVQ2, EVQ3, EVQ4, EVA, EVK, EVF, ↓reduceIte, Nat.reduceEqDiff, Nat.reduceAdd, Nat.reduceSub, Nat.reduceMul, Nat.reduceLT, Nat.reduceLeDiff, reduceCtorEq, Int.reduceToNat, Int.reduceLT, Int.reduceLE, Int.reduceAdd, Int.reduceSub, Int.reduceMul, Int.reduceNeg, Int.reduceEq, Nat.reduceMod, forall_eq_or_imp, forall_eq, forall_const, cond_true, cond_false, decide_true, decide_false, true_imp_iff, implies_true, Int.cast_ofNat_Int, forall_eq']
    intro _
    rw [hpc]; omega
def crsL (p : Pl) (L : List Int) (k s : Nat) : List Int := crkL p L k ++ (if s = 0 then [] else if s = 1 then [rnkE L p.ns.length (p.cs.getD k default).a (p.cs.getD k default).b] else [rnkE L p.ns.length (p.cs.getD k default).a (p.cs.getD k default).b, rnkE L p.ns.length (p.cs.getD k default).b (p.cs.getD k default).a])
def iS (k : Nat) (Q : List Int) : LV := if Q = [] then .nsl else .sl k (Q.length - 1) 1 0 Q.length
def iT (Q : List Int) : List (Nat × LO) := if Q = [] then [] else [(0, .ints [Q.getD 0 0]), (Q.length - 1, .ints Q)]
theorem iS_nil (k : Nat) : iS k [] = .nsl := rfl
theorem iT_nil : iT [] = [] := rfl
theorem iS_ne {k : Nat} {Q : List Int} (h : Q ≠ []) : iS k Q = .sl k (Q.length - 1) 1 0 Q.length := if_neg h
theorem iT_ne {Q : List Int} (h : Q ≠ []) : iT Q = [(0, .ints [Q.getD 0 0]), (Q.length - 1, .ints Q)] := if_neg h
theorem iS_one (k : Nat) (x : Int) : iS k [x] = .sl k 0 1 0 1 := rfl
theorem iT_one (x : Int) : iT [x] = [(0, .ints [x]), (0, .ints [x])] := rfl
theorem iT_snoc {Q : List Int} (h : Q ≠ []) (x : Int) : iT (Q ++ [x]) = [(0, .ints [Q.getD 0 0]), (Q.length, .ints (Q ++ [x]))] := by
  rw [iT_ne (by simp), getD_appL (List.length_pos_iff.2 h)]; simp
theorem iS_snoc (k : Nat) (Q : List Int) (x : Int) : iS k (Q ++ [x]) = .sl k Q.length 1 0 (Q.length + 1) := by
  rw [iS_ne (by simp)]; simp
theorem iS_below (Q : List Int) : belowV ((iT Q).length + 1) (iS 2 Q) := by
  by_cases h : Q = []
  · rw [h]; trivial
  · rw [iS_ne h, iT_ne h]; show 2 < 3; decide
theorem iT_weak (a : Nat × LO) (Q : List Int) {n : Nat} : weakH n (mkH (a :: iT Q)) 1 (iT Q) := by
  by_cases h : Q = []
  · rw [h]; trivial
  · rw [iT_ne h]; exact ⟨rfl, trivial, rfl, trivial, trivial⟩
theorem ev_canon (p : Pl) (hv : validE p = 0) (L : List Int) (hlen : L.length = p.ns.length) : Ev Try.prog 24 [plV p, intsV L] (intsV (crkL p L p.cs.length)) := by
  have hV := valid_of hv
  have hn16 := hV.n16
  have hc32 := hV.c32
  have h1 := fun u v => ev_refAbove L u v
  have h2 := fun u hu => ev_place L (by omega) u hu
  unfold plV intsV at *
  refine ev_fn Try.func24 comp24 (show 2 ≤ Try.f24.ntmps by decide) ?_; unfold cf24 rf24; simp only [↓EVP0, EVQ0, EVQ1, EVQ2, EVQ3, EVQ4, EVA, EVK, EVF, ↓reduceIte, Nat.reduceEqDiff, Nat.reduceAdd, Nat.reduceSub, Nat.reduceMul, Nat.reduceLT, Nat.reduceLeDiff, reduceCtorEq, Int.reduceToNat, Int.reduceLT, Int.reduceLE, Int.reduceAdd, Int.reduceSub, Int.reduceMul, Int.reduceNeg, Int.reduceEq, Nat.reduceMod, forall_eq_or_imp, forall_eq, forall_const, cond_true, cond_false, decide_true, decide_false, true_imp_iff, implies_true, Int.cast_ofNat_Int, forall_eq']
  intro _
  refine lwp_for (α := Unit) p.cs.length (fun _ _ => True) (fun k _ => [(1, .rsl 1 L.length (intsF L)), (2, .ptr 0 0 0 0 0), (5, iS 2 (crkL p L k)), (6, .sc (.int .i64 p.ns.length)), (7, .sc (.int .i64 k))])
    (fun k _ => (0, .box [.rsl 3 p.ns.length (ndsF p.ns), .rsl 6 p.cs.length (cbsF p.cs)]) :: iT (crkL p L k)) () trivial ?_ (fun _ _ => Nat.zero_le _) ?_
  · rw [show crkL p L 0 = [] from rfl, iS_nil, iT_nil]
    simp only [↓EVP0, EVQ0, EVQ1, EVQ2, EVQ3, EVQ4, EVA, EVK, EVF, ↓reduceIte, Nat.reduceEqDiff, Nat.reduceAdd, Nat.reduceSub, Nat.reduceMul, Nat.reduceLT, Nat.reduceLeDiff, reduceCtorEq, Int.reduceToNat, Int.reduceLT, Int.reduceLE, Int.reduceAdd, Int.reduceSub, Int.reduceMul, Int.reduceNeg, Int.reduceEq, Nat.reduceMod, forall_eq_or_imp, forall_eq, forall_const, cond_true, cond_false, decide_true, decide_false, true_imp_iff, implies_true, Int.cast_ofNat_Int, forall_eq']
  intro k _ hk _
  by_cases hk2 : k < p.cs.length
  · have hkd : decide ((k : Int) < p.cs.length) = true := decide_eq_true (by omega)
    have kk : 0 ≤ (k : Int) ∧ (k : Int) < p.cs.length := by omega
    have kI : In64 ((k : Int) + 1) := by unfold In64; omega
    have hcm := hV.cab _ (getD_mem default hk2)
    rw [← hlen] at hcm
    have hcl := crk_len p L k
    have hcs : crkL p L (k + 1) = crkL p L k ++ [rnkE L p.ns.length (p.cs.getD k default).a (p.cs.getD k default).b, rnkE L p.ns.length (p.cs.getD k default).b (p.cs.getD k default).a] := rfl
    have hb1 : iS 2 (crkL p L k) = iS 2 (crkL p L k) := rfl
    have c0 : crsL p L k 0 = crkL p L k := by unfold crsL; rw [if_pos rfl, List.append_nil]
    have c2 : crsL p L k 2 = crkL p L (k + 1) := by unfold crsL; rw [if_neg (by decide), if_neg (by decide), hcs]
    unfold lb24_1
    simp only [hkd, ↓EVP0, EVQ0, EVQ1, EVQ2, EVQ3, EVQ4, EVA, EVK, EVF, ↓reduceIte, Nat.reduceEqDiff, Nat.reduceAdd, Nat.reduceSub, Nat.reduceMul, Nat.reduceLT, Nat.reduceLeDiff, reduceCtorEq, Int.reduceToNat, Int.reduceLT, Int.reduceLE, Int.reduceAdd, Int.reduceSub, Int.reduceMul, Int.reduceNeg, Int.reduceEq, Nat.reduceMod, forall_eq_or_imp, forall_eq, forall_const, cond_true, cond_false, decide_true, decide_false, true_imp_iff, implies_true, Int.cast_ofNat_Int, forall_eq']
    refine ⟨by omega, fun _ => ?_⟩
    refine lwp_for (α := Unit) 2 (fun _ _ => True) (fun s _ => [(1, .rsl 1 L.length (intsF L)), (2, .ptr 0 0 0 0 0), (5, iS 2 (crsL p L k s)), (6, .sc (.int .i64 p.ns.length)), (7, .sc (.int .i64 k)), (8, .sc (.int .i64 s))])
      (fun s _ => (0, .box [.rsl 3 p.ns.length (ndsF p.ns), .rsl 6 p.cs.length (cbsF p.cs)]) :: iT (crsL p L k s)) () trivial ?_ (fun _ _ => Nat.zero_le _) ?_
    · rw [c0]
      simp only [↓EVP0, EVQ0, EVQ1, EVQ2, EVQ3, EVQ4, EVA, EVK, EVF, ↓reduceIte, Nat.reduceEqDiff, Nat.reduceAdd, Nat.reduceSub, Nat.reduceMul, Nat.reduceLT, Nat.reduceLeDiff, reduceCtorEq, Int.reduceToNat, Int.reduceLT, Int.reduceLE, Int.reduceAdd, Int.reduceSub, Int.reduceMul, Int.reduceNeg, Int.reduceEq, Nat.reduceMod, forall_eq_or_imp, forall_eq, forall_const, cond_true, cond_false, decide_true, decide_false, true_imp_iff, implies_true, Int.cast_ofNat_Int, forall_eq']
      exact ⟨Nat.le_refl _, ⟨by omega, iS_below _⟩, iT_weak _ _⟩
    intro s _ hs _
    by_cases hs2 : s < 2
    · obtain rfl | rfl : s = 0 ∨ s = 1 := by omega
      · have e1 : crsL p L k 1 = crsL p L k 0 ++ [rnkE L p.ns.length (p.cs.getD k default).a (p.cs.getD k default).b] := by unfold crsL; simp
        have h3 := h2 (p.cs.getD k default).a hcm.1
        have h4 := h2 (p.cs.getD k default).b hcm.2
        have hQl : (crsL p L k 0).length ≤ 100 := by unfold crsL; rw [List.length_append, hcl]; simp; omega
        rw [e1]
        have hU := hcm.1
        have hW := hcm.2
        have hPa := plF_le (L := L) (i := (p.cs.getD k default).a.toNat)
        have hPa2 := plF_lt (L := L) (i := (p.cs.getD k default).a.toNat)
        have hPb := plF_le (L := L) (i := (p.cs.getD k default).b.toNat)
        have hPb2 := plF_lt (L := L) (i := (p.cs.getD k default).b.toNat)
        have hsl := srt_len L
        unfold inN at hU hW
        generalize crsL p L k 0 = Q at *
        generalize hr : rnkE L p.ns.length (p.cs.getD k default).a (p.cs.getD k default).b = r
        unfold rnkE lvl at hr
        by_cases hQ : Q = []
        · rw [hQ, iS_nil, iT_nil, List.nil_append, iS_one, iT_one]
          unfold lb24_0
          simp only [↓EVP0, EVQ0, EVQ1, EVQ2, EVQ3, EVQ4, EVA, EVK, EVF, ↓reduceIte, Nat.reduceEqDiff, Nat.reduceAdd, Nat.reduceSub, Nat.reduceMul, Nat.reduceLT, Nat.reduceLeDiff, reduceCtorEq, Int.reduceToNat, Int.reduceLT, Int.reduceLE, Int.reduceAdd, Int.reduceSub, Int.reduceMul, Int.reduceNeg, Int.reduceEq, Nat.reduceMod, forall_eq_or_imp, forall_eq, forall_const, cond_true, cond_false, decide_true, decide_false, true_imp_iff, implies_true, Int.cast_ofNat_Int, forall_eq']
          generalize (p.cs.getD k default).a = a at *
          generalize (p.cs.getD k default).b = b at *
          refine ⟨kk, kk, hU, fun _ => hW, ?_⟩
          cases e : (bif decide (L.getD a.toNat 0 < 0) then true else decide (L.getD b.toNat 0 < 0))
          · rw [e] at hr
            refine ⟨fun h => by simp at h, fun _ => ?_⟩
            refine callK_ro (h1 b a) ?_ ?_
            · simp only [↓EVP0, EVQ0, EVQ1, EVQ2, EVQ3, EVQ4, EVA, EVK, EVF, ↓reduceIte, Nat.reduceEqDiff, Nat.reduceAdd, Nat.reduceSub, Nat.reduceMul, Nat.reduceLT, Nat.reduceLeDiff, reduceCtorEq, Int.reduceToNat, Int.reduceLT, Int.reduceLE, Int.reduceAdd, Int.reduceSub, Int.reduceMul, Int.reduceNeg, Int.reduceEq, Nat.reduceMod, forall_eq_or_imp, forall_eq, forall_const, cond_true, cond_false, decide_true, decide_false, true_imp_iff, implies_true, Int.cast_ofNat_Int, forall_eq']
            simp only [↓EVP0, EVQ0, EVQ1, EVQ2, EVQ3, EVQ4, EVA, EVK, EVF, ↓reduceIte, Nat.reduceEqDiff, Nat.reduceAdd, Nat.reduceSub, Nat.reduceMul, Nat.reduceLT, Nat.reduceLeDiff, reduceCtorEq, Int.reduceToNat, Int.reduceLT, Int.reduceLE, Int.reduceAdd, Int.reduceSub, Int.reduceMul, Int.reduceNeg, Int.reduceEq, Nat.reduceMod, forall_eq_or_imp, forall_eq, forall_const, cond_true, cond_false, decide_true, decide_false, true_imp_iff, implies_true, Int.cast_ofNat_Int, forall_eq']
            cases ha : aboveB L b a
            · rw [ha] at hr
              simp only [↓EVP0, EVQ0, EVQ1, EVQ2, EVQ3, EVQ4, EVA, EVK, EVF, ↓reduceIte, Nat.reduceEqDiff, Nat.reduceAdd, Nat.reduceSub, Nat.reduceMul, Nat.reduceLT, Nat.reduceLeDiff, reduceCtorEq, Int.reduceToNat, Int.reduceLT, Int.reduceLE, Int.reduceAdd, Int.reduceSub, Int.reduceMul, Int.reduceNeg, Int.reduceEq, Nat.reduceMod, forall_eq_or_imp, forall_eq, forall_const, cond_true, cond_false, decide_true, decide_false, true_imp_iff, implies_true, Int.cast_ofNat_Int, forall_eq']
              refine callK_ro (h4) ?_ ?_
              · simp only [↓EVP0, EVQ0, EVQ1, EVQ2, EVQ3, EVQ4, EVA, EVK, EVF, ↓reduceIte, Nat.reduceEqDiff, Nat.reduceAdd, Nat.reduceSub, Nat.reduceMul, Nat.reduceLT, Nat.reduceLeDiff, reduceCtorEq, Int.reduceToNat, Int.reduceLT, Int.reduceLE, Int.reduceAdd, Int.reduceSub, Int.reduceMul, Int.reduceNeg, Int.reduceEq, Nat.reduceMod, forall_eq_or_imp, forall_eq, forall_const, cond_true, cond_false, decide_true, decide_false, true_imp_iff, implies_true, Int.cast_ofNat_Int, forall_eq']
              simp only [↓EVP0, EVQ0, EVQ1, EVQ2, EVQ3, EVQ4, EVA, EVK, EVF, ↓reduceIte, Nat.reduceEqDiff, Nat.reduceAdd, Nat.reduceSub, Nat.reduceMul, Nat.reduceLT, Nat.reduceLeDiff, reduceCtorEq, Int.reduceToNat, Int.reduceLT, Int.reduceLE, Int.reduceAdd, Int.reduceSub, Int.reduceMul, Int.reduceNeg, Int.reduceEq, Nat.reduceMod, forall_eq_or_imp, forall_eq, forall_const, cond_true, cond_false, decide_true, decide_false, true_imp_iff, implies_true, Int.cast_ofNat_Int, forall_eq']
              subst hr
              exact ⟨by unfold In64; omega, by unfold appRoom; omega, by unfold In64; omega, (), rfl⟩
            · rw [ha] at hr
              simp only [↓EVP0, EVQ0, EVQ1, EVQ2, EVQ3, EVQ4, EVA, EVK, EVF, ↓reduceIte, Nat.reduceEqDiff, Nat.reduceAdd, Nat.reduceSub, Nat.reduceMul, Nat.reduceLT, Nat.reduceLeDiff, reduceCtorEq, Int.reduceToNat, Int.reduceLT, Int.reduceLE, Int.reduceAdd, Int.reduceSub, Int.reduceMul, Int.reduceNeg, Int.reduceEq, Nat.reduceMod, forall_eq_or_imp, forall_eq, forall_const, cond_true, cond_false, decide_true, decide_false, true_imp_iff, implies_true, Int.cast_ofNat_Int, forall_eq']
              refine ⟨by unfold In64; omega, ?_⟩
              refine callK_ro (h3) ?_ ?_
              · simp only [↓EVP0, EVQ0, EVQ1, EVQ2, EVQ3, EVQ4, EVA, EVK, EVF, ↓reduceIte, Nat.reduceEqDiff, Nat.reduceAdd, Nat.reduceSub, Nat.reduceMul, Nat.reduceLT, Nat.reduceLeDiff, reduceCtorEq, Int.reduceToNat, Int.reduceLT, Int.reduceLE, Int.reduceAdd, Int.reduceSub, Int.reduceMul, Int.reduceNeg, Int.reduceEq, Nat.reduceMod, forall_eq_or_imp, forall_eq, forall_const, cond_true, cond_false, decide_true, decide_false, true_imp_iff, implies_true, Int.cast_ofNat_Int, forall_eq']
              simp only [↓EVP0, EVQ0, EVQ1, EVQ2, EVQ3, EVQ4, EVA, EVK, EVF, ↓reduceIte, Nat.reduceEqDiff, Nat.reduceAdd, Nat.reduceSub, Nat.reduceMul, Nat.reduceLT, Nat.reduceLeDiff, reduceCtorEq, Int.reduceToNat, Int.reduceLT, Int.reduceLE, Int.reduceAdd, Int.reduceSub, Int.reduceMul, Int.reduceNeg, Int.reduceEq, Nat.reduceMod, forall_eq_or_imp, forall_eq, forall_const, cond_true, cond_false, decide_true, decide_false, true_imp_iff, implies_true, Int.cast_ofNat_Int, forall_eq']
              subst hr
              exact ⟨by unfold In64; omega, by unfold appRoom; omega, by unfold In64; omega, (), rfl⟩
          · rw [e] at hr
            subst hr
            refine ⟨fun _ => ?_, fun h => by simp at h⟩
            exact ⟨by unfold appRoom; omega, by unfold In64; omega, (), rfl⟩
        · rw [iS_ne hQ, iT_ne hQ, iS_snoc, iT_snoc hQ]
          unfold lb24_0
          simp only [↓EVP0, EVQ0, EVQ1, EVQ2, EVQ3, EVQ4, EVA, EVK, EVF, ↓reduceIte, Nat.reduceEqDiff, Nat.reduceAdd, Nat.reduceSub, Nat.reduceMul, Nat.reduceLT, Nat.reduceLeDiff, reduceCtorEq, Int.reduceToNat, Int.reduceLT, Int.reduceLE, Int.reduceAdd, Int.reduceSub, Int.reduceMul, Int.reduceNeg, Int.reduceEq, Nat.reduceMod, forall_eq_or_imp, forall_eq, forall_const, cond_true, cond_false, decide_true, decide_false, true_imp_iff, implies_true, Int.cast_ofNat_Int, forall_eq']
          have q1 : Q.length - 1 + 1 = Q.length := by have := List.length_pos_iff.2 hQ; omega
          generalize (p.cs.getD k default).a = a at *
          generalize (p.cs.getD k default).b = b at *
          refine ⟨kk, kk, hU, fun _ => hW, ?_⟩
          cases e : (bif decide (L.getD a.toNat 0 < 0) then true else decide (L.getD b.toNat 0 < 0))
          · rw [e] at hr
            refine ⟨fun h => by simp at h, fun _ => ?_⟩
            refine callK_ro (h1 b a) ?_ ?_
            · simp only [↓EVP0, EVQ0, EVQ1, EVQ2, EVQ3, EVQ4, EVA, EVK, EVF, ↓reduceIte, Nat.reduceEqDiff, Nat.reduceAdd, Nat.reduceSub, Nat.reduceMul, Nat.reduceLT, Nat.reduceLeDiff, reduceCtorEq, Int.reduceToNat, Int.reduceLT, Int.reduceLE, Int.reduceAdd, Int.reduceSub, Int.reduceMul, Int.reduceNeg, Int.reduceEq, Nat.reduceMod, forall_eq_or_imp, forall_eq, forall_const, cond_true, cond_false, decide_true, decide_false, true_imp_iff, implies_true, Int.cast_ofNat_Int, forall_eq']
            simp only [↓EVP0, EVQ0, EVQ1, EVQ2, EVQ3, EVQ4, EVA, EVK, EVF, ↓reduceIte, Nat.reduceEqDiff, Nat.reduceAdd, Nat.reduceSub, Nat.reduceMul, Nat.reduceLT, Nat.reduceLeDiff, reduceCtorEq, Int.reduceToNat, Int.reduceLT, Int.reduceLE, Int.reduceAdd, Int.reduceSub, Int.reduceMul, Int.reduceNeg, Int.reduceEq, Nat.reduceMod, forall_eq_or_imp, forall_eq, forall_const, cond_true, cond_false, decide_true, decide_false, true_imp_iff, implies_true, Int.cast_ofNat_Int, forall_eq']
            cases ha : aboveB L b a
            · rw [ha] at hr
              simp only [↓EVP0, EVQ0, EVQ1, EVQ2, EVQ3, EVQ4, EVA, EVK, EVF, ↓reduceIte, Nat.reduceEqDiff, Nat.reduceAdd, Nat.reduceSub, Nat.reduceMul, Nat.reduceLT, Nat.reduceLeDiff, reduceCtorEq, Int.reduceToNat, Int.reduceLT, Int.reduceLE, Int.reduceAdd, Int.reduceSub, Int.reduceMul, Int.reduceNeg, Int.reduceEq, Nat.reduceMod, forall_eq_or_imp, forall_eq, forall_const, cond_true, cond_false, decide_true, decide_false, true_imp_iff, implies_true, Int.cast_ofNat_Int, forall_eq']
              refine callK_ro (h4) ?_ ?_
              · simp only [↓EVP0, EVQ0, EVQ1, EVQ2, EVQ3, EVQ4, EVA, EVK, EVF, ↓reduceIte, Nat.reduceEqDiff, Nat.reduceAdd, Nat.reduceSub, Nat.reduceMul, Nat.reduceLT, Nat.reduceLeDiff, reduceCtorEq, Int.reduceToNat, Int.reduceLT, Int.reduceLE, Int.reduceAdd, Int.reduceSub, Int.reduceMul, Int.reduceNeg, Int.reduceEq, Nat.reduceMod, forall_eq_or_imp, forall_eq, forall_const, cond_true, cond_false, decide_true, decide_false, true_imp_iff, implies_true, Int.cast_ofNat_Int, forall_eq']
              simp only [↓EVP0, EVQ0, EVQ1, EVQ2, EVQ3, EVQ4, EVA, EVK, EVF, ↓reduceIte, Nat.reduceEqDiff, Nat.reduceAdd, Nat.reduceSub, Nat.reduceMul, Nat.reduceLT, Nat.reduceLeDiff, reduceCtorEq, Int.reduceToNat, Int.reduceLT, Int.reduceLE, Int.reduceAdd, Int.reduceSub, Int.reduceMul, Int.reduceNeg, Int.reduceEq, Nat.reduceMod, forall_eq_or_imp, forall_eq, forall_const, cond_true, cond_false, decide_true, decide_false, true_imp_iff, implies_true, Int.cast_ofNat_Int, forall_eq']
              subst hr
              exact ⟨by unfold In64; omega, Nat.le_refl _, by unfold appRoom; omega, by unfold In64; omega, (), by rw [q1], q1, by rw [List.take_length]; rfl⟩
            · rw [ha] at hr
              simp only [↓EVP0, EVQ0, EVQ1, EVQ2, EVQ3, EVQ4, EVA, EVK, EVF, ↓reduceIte, Nat.reduceEqDiff, Nat.reduceAdd, Nat.reduceSub, Nat.reduceMul, Nat.reduceLT, Nat.reduceLeDiff, reduceCtorEq, Int.reduceToNat, Int.reduceLT, Int.reduceLE, Int.reduceAdd, Int.reduceSub, Int.reduceMul, Int.reduceNeg, Int.reduceEq, Nat.reduceMod, forall_eq_or_imp, forall_eq, forall_const, cond_true, cond_false, decide_true, decide_false, true_imp_iff, implies_true, Int.cast_ofNat_Int, forall_eq']
              refine ⟨by unfold In64; omega, ?_⟩
              refine callK_ro (h3) ?_ ?_
              · simp only [↓EVP0, EVQ0, EVQ1, EVQ2, EVQ3, EVQ4, EVA, EVK, EVF, ↓reduceIte, Nat.reduceEqDiff, Nat.reduceAdd, Nat.reduceSub, Nat.reduceMul, Nat.reduceLT, Nat.reduceLeDiff, reduceCtorEq, Int.reduceToNat, Int.reduceLT, Int.reduceLE, Int.reduceAdd, Int.reduceSub, Int.reduceMul, Int.reduceNeg, Int.reduceEq, Nat.reduceMod, forall_eq_or_imp, forall_eq, forall_const, cond_true, cond_false, decide_true, decide_false, true_imp_iff, implies_true, Int.cast_ofNat_Int, forall_eq']
              simp only [↓EVP0, EVQ0, EVQ1, EVQ2, EVQ3, EVQ4, EVA, EVK, EVF, ↓reduceIte, Nat.reduceEqDiff, Nat.reduceAdd, Nat.reduceSub, Nat.reduceMul, Nat.reduceLT, Nat.reduceLeDiff, reduceCtorEq, Int.reduceToNat, Int.reduceLT, Int.reduceLE, Int.reduceAdd, Int.reduceSub, Int.reduceMul, Int.reduceNeg, Int.reduceEq, Nat.reduceMod, forall_eq_or_imp, forall_eq, forall_const, cond_true, cond_false, decide_true, decide_false, true_imp_iff, implies_true, Int.cast_ofNat_Int, forall_eq']
              subst hr
              exact ⟨by unfold In64; omega, Nat.le_refl _, by unfold appRoom; omega, by unfold In64; omega, (), by rw [q1], q1, by rw [List.take_length]; rfl⟩
          · rw [e] at hr
            subst hr
            refine ⟨fun _ => ?_, fun h => by simp at h⟩
            exact ⟨Nat.le_refl _, by unfold appRoom; omega, by unfold In64; omega, (), by rw [q1], q1, by rw [List.take_length]; rfl⟩
      · have e1 : crsL p L k 2 = crsL p L k 1 ++ [rnkE L p.ns.length (p.cs.getD k default).b (p.cs.getD k default).a] := by unfold crsL; simp
        have h3 := h2 (p.cs.getD k default).a hcm.1
        have h4 := h2 (p.cs.getD k default).b hcm.2
        have hQl : (crsL p L k 1).length ≤ 100 := by unfold crsL; rw [List.length_append, hcl]; simp; omega
        rw [e1]
        have hU := hcm.1
        have hW := hcm.2
        have hPa := plF_le (L := L) (i := (p.cs.getD k default).a.toNat)
        have hPa2 := plF_lt (L := L) (i := (p.cs.getD k default).a.toNat)
        have hPb := plF_le (L := L) (i := (p.cs.getD k default).b.toNat)
        have hPb2 := plF_lt (L := L) (i := (p.cs.getD k default).b.toNat)
        have hsl := srt_len L
        unfold inN at hU hW
        generalize crsL p L k 1 = Q at *
        generalize hr : rnkE L p.ns.length (p.cs.getD k default).b (p.cs.getD k default).a = r
        unfold rnkE lvl at hr
        by_cases hQ : Q = []
        · rw [hQ, iS_nil, iT_nil, List.nil_append, iS_one, iT_one]
          unfold lb24_0
          simp only [↓EVP0, EVQ0, EVQ1, EVQ2, EVQ3, EVQ4, EVA, EVK, EVF, ↓reduceIte, Nat.reduceEqDiff, Nat.reduceAdd, Nat.reduceSub, Nat.reduceMul, Nat.reduceLT, Nat.reduceLeDiff, reduceCtorEq, Int.reduceToNat, Int.reduceLT, Int.reduceLE, Int.reduceAdd, Int.reduceSub, Int.reduceMul, Int.reduceNeg, Int.reduceEq, Nat.reduceMod, forall_eq_or_imp, forall_eq, forall_const, cond_true, cond_false, decide_true, decide_false, true_imp_iff, implies_true, Int.cast_ofNat_Int, forall_eq']
          generalize (p.cs.getD k default).a = a at *
          generalize (p.cs.getD k default).b = b at *
          refine ⟨kk, kk, hW, fun _ => hU, ?_⟩
          cases e : (bif decide (L.getD b.toNat 0 < 0) then true else decide (L.getD a.toNat 0 < 0))
          · rw [e] at hr
            refine ⟨fun h => by simp at h, fun _ => ?_⟩
            refine callK_ro (h1 a b) ?_ ?_
            · simp only [↓EVP0, EVQ0, EVQ1, EVQ2, EVQ3, EVQ4, EVA, EVK, EVF, ↓reduceIte, Nat.reduceEqDiff, Nat.reduceAdd, Nat.reduceSub, Nat.reduceMul, Nat.reduceLT, Nat.reduceLeDiff, reduceCtorEq, Int.reduceToNat, Int.reduceLT, Int.reduceLE, Int.reduceAdd, Int.reduceSub, Int.reduceMul, Int.reduceNeg, Int.reduceEq, Nat.reduceMod, forall_eq_or_imp, forall_eq, forall_const, cond_true, cond_false, decide_true, decide_false, true_imp_iff, implies_true, Int.cast_ofNat_Int, forall_eq']
            simp only [↓EVP0, EVQ0, EVQ1, EVQ2, EVQ3, EVQ4, EVA, EVK, EVF, ↓reduceIte, Nat.reduceEqDiff, Nat.reduceAdd, Nat.reduceSub, Nat.reduceMul, Nat.reduceLT, Nat.reduceLeDiff, reduceCtorEq, Int.reduceToNat, Int.reduceLT, Int.reduceLE, Int.reduceAdd, Int.reduceSub, Int.reduceMul, Int.reduceNeg, Int.reduceEq, Nat.reduceMod, forall_eq_or_imp, forall_eq, forall_const, cond_true, cond_false, decide_true, decide_false, true_imp_iff, implies_true, Int.cast_ofNat_Int, forall_eq']
            cases ha : aboveB L a b
            · rw [ha] at hr
              simp only [↓EVP0, EVQ0, EVQ1, EVQ2, EVQ3, EVQ4, EVA, EVK, EVF, ↓reduceIte, Nat.reduceEqDiff, Nat.reduceAdd, Nat.reduceSub, Nat.reduceMul, Nat.reduceLT, Nat.reduceLeDiff, reduceCtorEq, Int.reduceToNat, Int.reduceLT, Int.reduceLE, Int.reduceAdd, Int.reduceSub, Int.reduceMul, Int.reduceNeg, Int.reduceEq, Nat.reduceMod, forall_eq_or_imp, forall_eq, forall_const, cond_true, cond_false, decide_true, decide_false, true_imp_iff, implies_true, Int.cast_ofNat_Int, forall_eq']
              refine callK_ro (h3) ?_ ?_
              · simp only [↓EVP0, EVQ0, EVQ1, EVQ2, EVQ3, EVQ4, EVA, EVK, EVF, ↓reduceIte, Nat.reduceEqDiff, Nat.reduceAdd, Nat.reduceSub, Nat.reduceMul, Nat.reduceLT, Nat.reduceLeDiff, reduceCtorEq, Int.reduceToNat, Int.reduceLT, Int.reduceLE, Int.reduceAdd, Int.reduceSub, Int.reduceMul, Int.reduceNeg, Int.reduceEq, Nat.reduceMod, forall_eq_or_imp, forall_eq, forall_const, cond_true, cond_false, decide_true, decide_false, true_imp_iff, implies_true, Int.cast_ofNat_Int, forall_eq']
              simp only [↓EVP0, EVQ0, EVQ1, EVQ2, EVQ3, EVQ4, EVA, EVK, EVF, ↓reduceIte, Nat.reduceEqDiff, Nat.reduceAdd, Nat.reduceSub, Nat.reduceMul, Nat.reduceLT, Nat.reduceLeDiff, reduceCtorEq, Int.reduceToNat, Int.reduceLT, Int.reduceLE, Int.reduceAdd, Int.reduceSub, Int.reduceMul, Int.reduceNeg, Int.reduceEq, Nat.reduceMod, forall_eq_or_imp, forall_eq, forall_const, cond_true, cond_false, decide_true, decide_false, true_imp_iff, implies_true, Int.cast_ofNat_Int, forall_eq']
              subst hr
              exact ⟨by unfold In64; omega, by unfold appRoom; omega, by unfold In64; omega, (), rfl⟩
            · rw [ha] at hr
              simp only [↓EVP0, EVQ0, EVQ1, EVQ2, EVQ3, EVQ4, EVA, EVK, EVF, ↓reduceIte, Nat.reduceEqDiff, Nat.reduceAdd, Nat.reduceSub, Nat.reduceMul, Nat.reduceLT, Nat.reduceLeDiff, reduceCtorEq, Int.reduceToNat, Int.reduceLT, Int.reduceLE, Int.reduceAdd, Int.reduceSub, Int.reduceMul, Int.reduceNeg, Int.reduceEq, Nat.reduceMod, forall_eq_or_imp, forall_eq, forall_const, cond_true, cond_false, decide_true, decide_false, true_imp_iff, implies_true, Int.cast_ofNat_Int, forall_eq']
              refine ⟨by unfold In64; omega, ?_⟩
              refine callK_ro (h4) ?_ ?_
              · simp only [↓EVP0, EVQ0, EVQ1, EVQ2, EVQ3, EVQ4, EVA, EVK, EVF, ↓reduceIte, Nat.reduceEqDiff, Nat.reduceAdd, Nat.reduceSub, Nat.reduceMul, Nat.reduceLT, Nat.reduceLeDiff, reduceCtorEq, Int.reduceToNat, Int.reduceLT, Int.reduceLE, Int.reduceAdd, Int.reduceSub, Int.reduceMul, Int.reduceNeg, Int.reduceEq, Nat.reduceMod, forall_eq_or_imp, forall_eq, forall_const, cond_true, cond_false, decide_true, decide_false, true_imp_iff, implies_true, Int.cast_ofNat_Int, forall_eq']
              simp only [↓EVP0, EVQ0, EVQ1, EVQ2, EVQ3, EVQ4, EVA, EVK, EVF, ↓reduceIte, Nat.reduceEqDiff, Nat.reduceAdd, Nat.reduceSub, Nat.reduceMul, Nat.reduceLT, Nat.reduceLeDiff, reduceCtorEq, Int.reduceToNat, Int.reduceLT, Int.reduceLE, Int.reduceAdd, Int.reduceSub, Int.reduceMul, Int.reduceNeg, Int.reduceEq, Nat.reduceMod, forall_eq_or_imp, forall_eq, forall_const, cond_true, cond_false, decide_true, decide_false, true_imp_iff, implies_true, Int.cast_ofNat_Int, forall_eq']
              subst hr
              exact ⟨by unfold In64; omega, by unfold appRoom; omega, by unfold In64; omega, (), rfl⟩
          · rw [e] at hr
            subst hr
            refine ⟨fun _ => ?_, fun h => by simp at h⟩
            exact ⟨by unfold appRoom; omega, by unfold In64; omega, (), rfl⟩
        · rw [iS_ne hQ, iT_ne hQ, iS_snoc, iT_snoc hQ]
          unfold lb24_0
          simp only [↓EVP0, EVQ0, EVQ1, EVQ2, EVQ3, EVQ4, EVA, EVK, EVF, ↓reduceIte, Nat.reduceEqDiff, Nat.reduceAdd, Nat.reduceSub, Nat.reduceMul, Nat.reduceLT, Nat.reduceLeDiff, reduceCtorEq, Int.reduceToNat, Int.reduceLT, Int.reduceLE, Int.reduceAdd, Int.reduceSub, Int.reduceMul, Int.reduceNeg, Int.reduceEq, Nat.reduceMod, forall_eq_or_imp, forall_eq, forall_const, cond_true, cond_false, decide_true, decide_false, true_imp_iff, implies_true, Int.cast_ofNat_Int, forall_eq']
          have q1 : Q.length - 1 + 1 = Q.length := by have := List.length_pos_iff.2 hQ; omega
          generalize (p.cs.getD k default).a = a at *
          generalize (p.cs.getD k default).b = b at *
          refine ⟨kk, kk, hW, fun _ => hU, ?_⟩
          cases e : (bif decide (L.getD b.toNat 0 < 0) then true else decide (L.getD a.toNat 0 < 0))
          · rw [e] at hr
            refine ⟨fun h => by simp at h, fun _ => ?_⟩
            refine callK_ro (h1 a b) ?_ ?_
            · simp only [↓EVP0, EVQ0, EVQ1, EVQ2, EVQ3, EVQ4, EVA, EVK, EVF, ↓reduceIte, Nat.reduceEqDiff, Nat.reduceAdd, Nat.reduceSub, Nat.reduceMul, Nat.reduceLT, Nat.reduceLeDiff, reduceCtorEq, Int.reduceToNat, Int.reduceLT, Int.reduceLE, Int.reduceAdd, Int.reduceSub, Int.reduceMul, Int.reduceNeg, Int.reduceEq, Nat.reduceMod, forall_eq_or_imp, forall_eq, forall_const, cond_true, cond_false, decide_true, decide_false, true_imp_iff, implies_true, Int.cast_ofNat_Int, forall_eq']
            simp only [↓EVP0, EVQ0, EVQ1, EVQ2, EVQ3, EVQ4, EVA, EVK, EVF, ↓reduceIte, Nat.reduceEqDiff, Nat.reduceAdd, Nat.reduceSub, Nat.reduceMul, Nat.reduceLT, Nat.reduceLeDiff, reduceCtorEq, Int.reduceToNat, Int.reduceLT, Int.reduceLE, Int.reduceAdd, Int.reduceSub, Int.reduceMul, Int.reduceNeg, Int.reduceEq, Nat.reduceMod, forall_eq_or_imp, forall_eq, forall_const, cond_true, cond_false, decide_true, decide_false, true_imp_iff, implies_true, Int.cast_ofNat_Int, forall_eq']
            cases ha : aboveB L a b
            · rw [ha] at hr
              simp only [↓EVP0, EVQ0, EVQ1, EVQ2, EVQ3, EVQ4, EVA, EVK, EVF, ↓reduceIte, Nat.reduceEqDiff, Nat.reduceAdd, Nat.reduceSub, Nat.reduceMul, Nat.reduceLT, Nat.reduceLeDiff, reduceCtorEq, Int.reduceToNat, Int.reduceLT, Int.reduceLE, Int.reduceAdd, Int.reduceSub, Int.reduceMul, Int.reduceNeg, Int.reduceEq, Nat.reduceMod, forall_eq_or_imp, forall_eq, forall_const, cond_true, cond_false, decide_true, decide_false, true_imp_iff, implies_true, Int.cast_ofNat_Int, forall_eq']
              refine callK_ro (h3) ?_ ?_
              · simp only [↓EVP0, EVQ0, EVQ1, EVQ2, EVQ3, EVQ4, EVA, EVK, EVF, ↓reduceIte, Nat.reduceEqDiff, Nat.reduceAdd, Nat.reduceSub, Nat.reduceMul, Nat.reduceLT, Nat.reduceLeDiff, reduceCtorEq, Int.reduceToNat, Int.reduceLT, Int.reduceLE, Int.reduceAdd, Int.reduceSub, Int.reduceMul, Int.reduceNeg, Int.reduceEq, Nat.reduceMod, forall_eq_or_imp, forall_eq, forall_const, cond_true, cond_false, decide_true, decide_false, true_imp_iff, implies_true, Int.cast_ofNat_Int, forall_eq']
              simp only [↓EVP0, EVQ0, EVQ1, EVQ2, EVQ3, EVQ4, EVA, EVK, EVF, ↓reduceIte, Nat.reduceEqDiff, Nat.reduceAdd, Nat.reduceSub, Nat.reduceMul, Nat.reduceLT, Nat.reduceLeDiff, reduceCtorEq, Int.reduceToNat, Int.reduceLT, Int.reduceLE, Int.reduceAdd, Int.reduceSub, Int.reduceMul, Int.reduceNeg, Int.reduceEq, Nat.reduceMod, forall_eq_or_imp, forall_eq, forall_const, cond_true, cond_false, decide_true, decide_false, true_imp_iff, implies_true, Int.cast_ofNat_Int, forall_eq']
              subst hr
              exact ⟨by unfold In64; omega, Nat.le_refl _, by unfold appRoom; omega, by unfold In64; omega, (), by rw [q1], q1, by rw [List.take_length]; rfl⟩
            · rw [ha] at hr
              simp only [↓EVP0, EVQ0, EVQ1, EVQ2, EVQ3, EVQ4, EVA, EVK, EVF, ↓reduceIte, Nat.reduceEqDiff, Nat.reduceAdd, Nat.reduceSub, Nat.reduceMul, Nat.reduceLT, Nat.reduceLeDiff, reduceCtorEq, Int.reduceToNat, Int.reduceLT, Int.reduceLE, Int.reduceAdd, Int.reduceSub, Int.reduceMul, Int.reduceNeg, Int.reduceEq, Nat.reduceMod, forall_eq_or_imp, forall_eq, forall_const, cond_true, cond_false, decide_true, decide_false, true_imp_iff, implies_true, Int.cast_ofNat_Int, forall_eq']
              refine ⟨by unfold In64; omega, ?_⟩
              refine callK_ro (h4) ?_ ?_
              · simp only [↓EVP0, EVQ0, EVQ1, EVQ2, EVQ3, EVQ4, EVA, EVK, EVF, ↓reduceIte, Nat.reduceEqDiff, Nat.reduceAdd, Nat.reduceSub, Nat.reduceMul, Nat.reduceLT, Nat.reduceLeDiff, reduceCtorEq, Int.reduceToNat, Int.reduceLT, Int.reduceLE, Int.reduceAdd, Int.reduceSub, Int.reduceMul, Int.reduceNeg, Int.reduceEq, Nat.reduceMod, forall_eq_or_imp, forall_eq, forall_const, cond_true, cond_false, decide_true, decide_false, true_imp_iff, implies_true, Int.cast_ofNat_Int, forall_eq']
              simp only [↓EVP0, EVQ0, EVQ1, EVQ2, EVQ3, EVQ4, EVA, EVK, EVF, ↓reduceIte, Nat.reduceEqDiff, Nat.reduceAdd, Nat.reduceSub, Nat.reduceMul, Nat.reduceLT, Nat.reduceLeDiff, reduceCtorEq, Int.reduceToNat, Int.reduceLT, Int.reduceLE, Int.reduceAdd, Int.reduceSub, Int.reduceMul, Int.reduceNeg, Int.reduceEq, Nat.reduceMod, forall_eq_or_imp, forall_eq, forall_const, cond_true, cond_false, decide_true, decide_false, true_imp_iff, implies_true, Int.cast_ofNat_Int, forall_eq']
              subst hr
              exact ⟨by unfold In64; omega, Nat.le_refl _, by unfold appRoom; omega, by unfold In64; omega, (), by rw [q1], q1, by rw [List.take_length]; rfl⟩
          · rw [e] at hr
            subst hr
            refine ⟨fun _ => ?_, fun h => by simp at h⟩
            exact ⟨Nat.le_refl _, by unfold appRoom; omega, by unfold In64; omega, (), by rw [q1], q1, by rw [List.take_length]; rfl⟩
    · obtain rfl : s = 2 := by omega
      rw [c2]
      unfold lb24_0
      simp only [↓EVP0, EVQ0, EVQ1, EVQ2, EVQ3, EVQ4, EVA, EVK, EVF, ↓reduceIte, Nat.reduceEqDiff, Nat.reduceAdd, Nat.reduceSub, Nat.reduceMul, Nat.reduceLT, Nat.reduceLeDiff, reduceCtorEq, Int.reduceToNat, Int.reduceLT, Int.reduceLE, Int.reduceAdd, Int.reduceSub, Int.reduceMul, Int.reduceNeg, Int.reduceEq, Nat.reduceMod, forall_eq_or_imp, forall_eq, forall_const, cond_true, cond_false, decide_true, decide_false, true_imp_iff, implies_true, Int.cast_ofNat_Int, forall_eq']
      exact ⟨kI, hk2, (), Nat.le_refl _, ⟨by omega, iS_below _⟩, iT_weak _ _⟩
  · obtain rfl : k = p.cs.length := by omega
    have hkd : decide ((p.cs.length : Int) < p.cs.length) = false := decide_eq_false (by omega)
    generalize crkL p L p.cs.length = Q at *
    by_cases hQ : Q = []
    · rw [hQ, iS_nil, iT_nil]
      unfold lb24_1
      simp only [hkd, ↓EVP0, EVQ0, EVQ1, EVQ2, EVQ3, EVQ4, EVA, EVK, EVF, ↓reduceIte, Nat.reduceEqDiff, Nat.reduceAdd, Nat.reduceSub, Nat.reduceMul, Nat.reduceLT, Nat.reduceLeDiff, reduceCtorEq, Int.reduceToNat, Int.reduceLT, Int.reduceLE, Int.reduceAdd, Int.reduceSub, Int.reduceMul, Int.reduceNeg, Int.reduceEq, Nat.reduceMod, forall_eq_or_imp, forall_eq, forall_const, cond_true, cond_false, decide_true, decide_false, true_imp_iff, implies_true, Int.cast_ofNat_Int, forall_eq']
    · rw [iS_ne hQ, iT_ne hQ]
      unfold lb24_1
      simp only [hkd, ↓EVP0, EVQ0, EVQ1, EVQ2, EVQ3, EVQ4, EVA, EVK, EVF, ↓reduceIte, Nat.reduceEqDiff, Nat.reduceAdd, Nat.reduceSub, Nat.reduceMul, Nat.reduceLT, Nat.reduceLeDiff, reduceCtorEq, Int.reduceToNat, Int.reduceLT, Int.reduceLE, Int.reduceAdd, Int.reduceSub, Int.reduceMul, Int.reduceNeg, Int.reduceEq, Nat.reduceMod, forall_eq_or_imp, forall_eq, forall_const, cond_true, cond_false, decide_true, decide_false, true_imp_iff, implies_true, Int.cast_ofNat_Int, forall_eq']
      exact fun _ => Nat.le_refl _
end Go.Proofs.Yteblljpbnpaplaa
