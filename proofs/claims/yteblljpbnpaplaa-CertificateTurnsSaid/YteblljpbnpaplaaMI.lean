/- Chapter 21: the laws CertificateCheck and CertificateExists; Chapter 21: the law CertificateExists; Chapter 21: the law CertificateParts; Chapter 21: certificate.Of; Chapter 21: the reference's places and canonical ranks; Chapter 21: the law CertificateOf; Chapter 21: the law CertificateTurns. Conditions: none. -/
import Derived.Test.YteblljpbnpaplaaMH
namespace Go.Proofs.Yteblljpbnpaplaa
set_option linter.unusedSimpArgs false
set_option linter.unusedVariables false
open Go.RowKit
set_option maxRecDepth 20000

theorem ro_deps {h : LH} {k ver : Nat} {L : List Dp} (hk : k < h.n) (hv : h.f k = (ver, .row 3 L.length (apD L))) : roTo1 h (.sl k ver 3 0 L.length) (.rsl 3 L.length (dpsF L)) := by
  refine ⟨rfl, rfl, hk, by rw [hv], ?_, fun i hi => ?_⟩
  · rw [hv]
    exact ⟨rfl, by omega, fun i hi => by rw [Nat.zero_add, apD_get hi]; rfl⟩
  · rw [hv, Nat.zero_add]
    exact ⟨apD_get hi, ⟨trivial, trivial, trivial, trivial⟩⟩
end Go.Proofs.Yteblljpbnpaplaa
namespace Go.Proofs.Yteblljpbnpaplaa
set_option linter.unusedSimpArgs false
set_option linter.unusedVariables false
open Go.RowKit
set_option maxRecDepth 20000

theorem vio_false {r : List Int} {d : Dp} : vioB r d = false ↔ inN r.length d.f ∧ inN r.length d.t ∧ lvl r d.f < lvl r d.t := by
  unfold vioB
  constructor
  · intro h
    have h1 : hasM r.length d.f = true := by cases e : hasM r.length d.f <;> rw [e] at h <;> simp at h ⊢
    have h2 : hasM r.length d.t = true := by cases e : hasM r.length d.t <;> rw [e, h1] at h <;> simp at h ⊢
    rw [h1, h2] at h
    have h3 := of_decide_eq_false (show decide (r.getD d.t.toNat 0 ≤ r.getD d.f.toNat 0) = false from h)
    refine ⟨hasM_iff.1 h1, hasM_iff.1 h2, ?_⟩
    unfold lvl; omega
  · rintro ⟨h1, h2, h3⟩
    rw [hasM_iff.2 h1, hasM_iff.2 h2]
    unfold lvl at h3
    exact decide_eq_false (by omega)
theorem chk_nil {l : List Dp} {r : List Int} : chkL l r = [] ↔ ∀ d, d ∈ l → inN r.length d.f ∧ inN r.length d.t ∧ lvl r d.f < lvl r d.t := by
  unfold chkL
  rw [List.filter_eq_nil_iff]
  constructor
  · intro h d hd
    have := h d hd
    rw [Bool.not_eq_true] at this
    exact vio_false.1 this
  · intro h d hd
    rw [Bool.not_eq_true]
    exact vio_false.2 (h d hd)
end Go.Proofs.Yteblljpbnpaplaa
namespace Go.Proofs.Yteblljpbnpaplaa
set_option linter.unusedSimpArgs false
set_option linter.unusedVariables false
open Go.RowKit
set_option maxRecDepth 20000

theorem lcall_frzG {P : Program} {h : LH} {f : FuncId} {args args' : List LV} {r : LV} (he : Ev P f args' r) (ha : roToL2 h args args') (hs : ∀ R R' v, Ro R r v → Ro R' r v) : LCall P f args h r h := by
  intro B R ι w vs hB hr hsz hargs
  obtain ⟨g1, g2⟩ := roToL2_get ha
  refine (he (fun b => w.heap[b]?) w vs (fun _ _ h => h) (hr.gl.mono fun b o hb => hr.ro b o hb) (by omega) (fun i a hi => ?_)).mono ?_
  · obtain ⟨x, hx, hx2⟩ := g2 i a hi
    exact roTo2_ok hr (fun b o hb => hr.ro b o hb) (fun _ _ _ _ => rfl) (hargs i x hx) hx2
  · intro e w' hx
    obtain ⟨v, R', rfl, h1, h2, h3, h4, h5⟩ := hx
    refine ⟨v, R, ι, rfl, trans_call hB hr (R2 := R) (fun b o hbo => ?_) h4 (fun _ _ h => h) (fun _ _ => rfl) rfl, .ro (hs _ _ _ h5)⟩
    have := hr.ro b o hbo
    rw [h4.b.block b (Array.getElem?_eq_some_iff.1 this).1]; exact this
theorem ro_none {z : Nat} {f : Nat → List LV} : ∀ R R' v, Ro R (.rsl z 0 f) v → Ro R' (.rsl z 0 f) v := fun R R' v h => by
  cases h with
  | rsl _ _ _ a cap b o g hc hm ha hf hcell hv hp =>
    exact .rsl _ _ _ a cap b o g hc hm (fun h => absurd h (Nat.lt_irrefl _)) (fun i hi => absurd hi (Nat.not_lt_zero _)) (fun i j hi => absurd hi (Nat.not_lt_zero _)) (fun i j c hi => absurd hi (Nat.not_lt_zero _)) (fun i j hi => absurd hi (Nat.not_lt_zero _))
theorem callK_frz0 {P : Program} {f : FuncId} {al al' : List LV} {h : LH} {k : LV → LH → Prop} {z : Nat} {g : Nat → List LV} (he : Ev P f al' (.rsl z 0 g)) (ha : roToL2 h al al') (hk : k (.rsl z 0 g) h) : @callK _ P f al h ⟨k⟩ := ⟨_, h, lcall_frzG he ha ro_none, hk⟩
end Go.Proofs.Yteblljpbnpaplaa
namespace Go.Proofs.Yteblljpbnpaplaa
set_option linter.unusedSimpArgs false
set_option linter.unusedVariables false
open Go.RowKit
set_option maxRecDepth 20000

def rnkE (L : List Int) (n u v : Int) : Int := bif bif decide (lvl L u < 0) then true else decide (lvl L v < 0) then -1 else bif aboveB L v u then n - 1 - plF L u.toNat else n + plF L v.toNat
theorem plc_getE {L : List Int} {i : Nat} (h : i < L.length) : (plcL L).getD i 0 = plF L i := by
  unfold plcL
  rw [List.getD_eq_getElem?_getD, List.getElem?_map, List.getElem?_range h]; rfl
theorem ev_rank (L : List Int) (n : Int) (hn : 0 ≤ n ∧ n ≤ 1000) (hL : L.length ≤ 1000) (u v : Int) (hu : inN L.length u) (hv : inN L.length v) :
    Ev Try.prog 38 [.sc (.int .i64 u), .sc (.int .i64 v), .rptr [intsV L], .rptr [.sc (.int .i64 n)], .rptr [intsV (plcL L)]] (.sc (.int .i64 (rnkE L n u v))) := by
  have h1 := ev_above L v u
  have hpl : (plcL L).length = L.length := by simp [plcL]
  unfold intsV at *
  unfold inN at hu hv
  refine ev_fn Try.func38 comp38 (show 5 ≤ Try.f38.ntmps by decide) ?_; unfold cf38 rf38; simp only [↓EVP0, EVQ0, EVQ1, EVQ2, EVQ3, EVQ4, EVA, EVK, EVF, ↓reduceIte, Nat.reduceEqDiff, Nat.reduceAdd, Nat.reduceSub, Nat.reduceMul, Nat.reduceLT, Nat.reduceLeDiff, reduceCtorEq, Int.reduceToNat, Int.reduceLT, Int.reduceLE, Int.reduceAdd, Int.reduceSub, Int.reduceMul, Int.reduceNeg, Int.reduceEq, Nat.reduceMod, forall_eq_or_imp, forall_eq, forall_const, cond_true, cond_false, decide_true, decide_false, true_imp_iff, implies_true, Int.cast_ofNat_Int, forall_eq']
  have hPu := plF_le (L := L) (i := u.toNat)
  have hPu2 := plF_lt (L := L) (i := u.toNat)
  have hPv := plF_le (L := L) (i := v.toNat)
  have hPv2 := plF_lt (L := L) (i := v.toNat)
  have hsl := srt_len L
  have gu : (plcL L).getD u.toNat 0 = plF L u.toNat := plc_getE (by omega)
  have gv : (plcL L).getD v.toNat 0 = plF L v.toNat := plc_getE (by omega)
  refine ⟨hu, fun _ => hv, ?_⟩
  cases e : (bif decide (L.getD u.toNat 0 < 0) then true else decide (L.getD v.toNat 0 < 0))
  · refine ⟨fun h => by simp at h, fun _ => ?_⟩
    refine callK_ro (h1) ?_ ?_
    · simp only [↓EVP0, EVQ0, EVQ1, EVQ2, EVQ3, EVQ4, EVA, EVK, EVF, ↓reduceIte, Nat.reduceEqDiff, Nat.reduceAdd, Nat.reduceSub, Nat.reduceMul, Nat.reduceLT, Nat.reduceLeDiff, reduceCtorEq, Int.reduceToNat, Int.reduceLT, Int.reduceLE, Int.reduceAdd, Int.reduceSub, Int.reduceMul, Int.reduceNeg, Int.reduceEq, Nat.reduceMod, forall_eq_or_imp, forall_eq, forall_const, cond_true, cond_false, decide_true, decide_false, true_imp_iff, implies_true, Int.cast_ofNat_Int, forall_eq']
    simp only [↓EVP0, EVQ0, EVQ1, EVQ2, EVQ3, EVQ4, EVA, EVK, EVF, ↓reduceIte, Nat.reduceEqDiff, Nat.reduceAdd, Nat.reduceSub, Nat.reduceMul, Nat.reduceLT, Nat.reduceLeDiff, reduceCtorEq, Int.reduceToNat, Int.reduceLT, Int.reduceLE, Int.reduceAdd, Int.reduceSub, Int.reduceMul, Int.reduceNeg, Int.reduceEq, Nat.reduceMod, forall_eq_or_imp, forall_eq, forall_const, cond_true, cond_false, decide_true, decide_false, true_imp_iff, implies_true, Int.cast_ofNat_Int, forall_eq']
    have hr : rnkE L n u v = bif aboveB L v u then n - 1 - plF L u.toNat else n + plF L v.toNat := by
      unfold rnkE lvl; rw [e]; rfl
    rw [hr, gu, gv, hpl]
    cases ha : aboveB L v u
    · simp only [↓EVP0, EVQ0, EVQ1, EVQ2, EVQ3, EVQ4, EVA, EVK, EVF, ↓reduceIte, Nat.reduceEqDiff, Nat.reduceAdd, Nat.reduceSub, Nat.reduceMul, Nat.reduceLT, Nat.reduceLeDiff, reduceCtorEq, Int.reduceToNat, Int.reduceLT, Int.reduceLE, Int.reduceAdd, Int.reduceSub, Int.reduceMul, Int.reduceNeg, Int.reduceEq, Nat.reduceMod, forall_eq_or_imp, forall_eq, forall_const, cond_true, cond_false, decide_true, decide_false, true_imp_iff, implies_true, Int.cast_ofNat_Int, forall_eq']
      exact ⟨hv, by unfold In64; omega⟩
    · simp only [↓EVP0, EVQ0, EVQ1, EVQ2, EVQ3, EVQ4, EVA, EVK, EVF, ↓reduceIte, Nat.reduceEqDiff, Nat.reduceAdd, Nat.reduceSub, Nat.reduceMul, Nat.reduceLT, Nat.reduceLeDiff, reduceCtorEq, Int.reduceToNat, Int.reduceLT, Int.reduceLE, Int.reduceAdd, Int.reduceSub, Int.reduceMul, Int.reduceNeg, Int.reduceEq, Nat.reduceMod, forall_eq_or_imp, forall_eq, forall_const, cond_true, cond_false, decide_true, decide_false, true_imp_iff, implies_true, Int.cast_ofNat_Int, forall_eq']
      exact ⟨by unfold In64; omega, hu, by unfold In64; omega⟩
  · refine ⟨fun _ => ?_, fun h => by simp at h⟩
    unfold rnkE lvl; rw [e]; rfl
def crkL (p : Pl) (L : List Int) : Nat → List Int
  | 0 => []
  | k + 1 => crkL p L k ++ [rnkE L p.ns.length (p.cs.getD k default).a (p.cs.getD k default).b, rnkE L p.ns.length (p.cs.getD k default).b (p.cs.getD k default).a]
theorem crk_len (p : Pl) (L : List Int) : ∀ k, (crkL p L k).length = 2 * k
  | 0 => rfl
  | k + 1 => by
    unfold crkL
    rw [List.length_append, crk_len p L k]; rfl
def cofE (p : Pl) (L : List Int) : List Int × Int := bif ordB p L then (crkL p L p.cs.length, 0) else ([], 1)
theorem ev_certOf (p : Pl) (hp : PlOk p) (L : List Int) : Ev Try.prog 20 [plV p, .agg [intsV L]] (.tup [intsV (cofE p L).1, .sc (.int .i64 (cofE p L).2)]) := by
  have h1 := ev_ordValid p hp L
  unfold cofE
  unfold plV intsV at *
  refine ev_fn Try.func20 comp20 (show 2 ≤ Try.f20.ntmps by decide) ?_; unfold cf20 rf20; simp only [↓EVP0, EVQ0, EVQ1, EVQ2, EVQ3, EVQ4, EVA, EVK, EVF, ↓reduceIte, Nat.reduceEqDiff, Nat.reduceAdd, Nat.reduceSub, Nat.reduceMul, Nat.reduceLT, Nat.reduceLeDiff, reduceCtorEq, Int.reduceToNat, Int.reduceLT, Int.reduceLE, Int.reduceAdd, Int.reduceSub, Int.reduceMul, Int.reduceNeg, Int.reduceEq, Nat.reduceMod, forall_eq_or_imp, forall_eq, forall_const, cond_true, cond_false, decide_true, decide_false, true_imp_iff, implies_true, Int.cast_ofNat_Int, forall_eq']
  refine callK_ro (h1) ?_ ?_
  · simp only [↓EVP0, EVQ0, EVQ1, EVQ2, EVQ3, EVQ4, EVA, EVK, EVF, ↓reduceIte, Nat.reduceEqDiff, Nat.reduceAdd, Nat.reduceSub, Nat.reduceMul, Nat.reduceLT, Nat.reduceLeDiff, reduceCtorEq, Int.reduceToNat, Int.reduceLT, Int.reduceLE, Int.reduceAdd, Int.reduceSub, Int.reduceMul, Int.reduceNeg, Int.reduceEq, Nat.reduceMod, forall_eq_or_imp, forall_eq, forall_const, cond_true, cond_false, decide_true, decide_false, true_imp_iff, implies_true, Int.cast_ofNat_Int, forall_eq']
  simp only [↓EVP0, EVQ0, EVQ1, EVQ2, EVQ3, EVQ4, EVA, EVK, EVF, ↓reduceIte, Nat.reduceEqDiff, Nat.reduceAdd, Nat.reduceSub, Nat.reduceMul, Nat.reduceLT, Nat.reduceLeDiff, reduceCtorEq, Int.reduceToNat, Int.reduceLT, Int.reduceLE, Int.reduceAdd, Int.reduceSub, Int.reduceMul, Int.reduceNeg, Int.reduceEq, Nat.reduceMod, forall_eq_or_imp, forall_eq, forall_const, cond_true, cond_false, decide_true, decide_false, true_imp_iff, implies_true, Int.cast_ofNat_Int, forall_eq']
  cases ho : ordB p L
  · simp only [↓EVP0, EVQ0, EVQ1, EVQ2, EVQ3, EVQ4, EVA, EVK, EVF, ↓reduceIte, Nat.reduceEqDiff, Nat.reduceAdd, Nat.reduceSub, Nat.reduceMul, Nat.reduceLT, Nat.reduceLeDiff, reduceCtorEq, Int.reduceToNat, Int.reduceLT, Int.reduceLE, Int.reduceAdd, Int.reduceSub, Int.reduceMul, Int.reduceNeg, Int.reduceEq, Nat.reduceMod, forall_eq_or_imp, forall_eq, forall_const, cond_true, cond_false, decide_true, decide_false, true_imp_iff, implies_true, Int.cast_ofNat_Int, forall_eq']
  simp only [↓EVP0, EVQ0, EVQ1, EVQ2, EVQ3, EVQ4, EVA, EVK, EVF, ↓reduceIte, Nat.reduceEqDiff, Nat.reduceAdd, Nat.reduceSub, Nat.reduceMul, Nat.reduceLT, Nat.reduceLeDiff, reduceCtorEq, Int.reduceToNat, Int.reduceLT, Int.reduceLE, Int.reduceAdd, Int.reduceSub, Int.reduceMul, Int.reduceNeg, Int.reduceEq, Nat.reduceMod, forall_eq_or_imp, forall_eq, forall_const, cond_true, cond_false, decide_true, decide_false, true_imp_iff, implies_true, Int.cast_ofNat_Int, forall_eq']
  intro _
  have hob := ho
  unfold ordB at hob
  simp only [Bool.and_eq_true, decide_eq_true_eq] at hob
  obtain ⟨⟨hv, hlen⟩, _, hz, _⟩ := hob
  have hV := valid_of hv
  have hn16 := hV.n16
  have hc32 := hV.c32
  have hne : ndsN L L.length ≠ [] := by
    obtain ⟨x, hx, hx0⟩ := List.countP_pos_iff.1 (show 0 < L.countP isZ by omega)
    obtain ⟨i, hi, rfl⟩ := List.getElem_of_mem hx
    have h0 : L[i] = 0 := of_decide_eq_true hx0
    refine List.ne_nil_of_mem (a := i) (mem_nds.2 ⟨hi, ?_⟩)
    rw [List.getD_eq_getElem?_getD, List.getElem?_eq_getElem hi]
    show 0 ≤ L[i]
    omega
  have h2 := ev_places L (by omega) hne
  have h3 := fun u v hu hv => ev_rank L p.ns.length (by omega) (by omega) u v hu hv
  unfold intsV at h2 h3
  refine callK_ro (h2) ?_ ?_
  · simp only [↓EVP0, EVQ0, EVQ1, EVQ2, EVQ3, EVQ4, EVA, EVK, EVF, ↓reduceIte, Nat.reduceEqDiff, Nat.reduceAdd, Nat.reduceSub, Nat.reduceMul, Nat.reduceLT, Nat.reduceLeDiff, reduceCtorEq, Int.reduceToNat, Int.reduceLT, Int.reduceLE, Int.reduceAdd, Int.reduceSub, Int.reduceMul, Int.reduceNeg, Int.reduceEq, Nat.reduceMod, forall_eq_or_imp, forall_eq, forall_const, cond_true, cond_false, decide_true, decide_false, true_imp_iff, implies_true, Int.cast_ofNat_Int, forall_eq']
  simp only [↓EVP0, EVQ0, EVQ1, EVQ2, EVQ3, EVQ4, EVA, EVK, EVF, ↓reduceIte, Nat.reduceEqDiff, Nat.reduceAdd, Nat.reduceSub, Nat.reduceMul, Nat.reduceLT, Nat.reduceLeDiff, reduceCtorEq, Int.reduceToNat, Int.reduceLT, Int.reduceLE, Int.reduceAdd, Int.reduceSub, Int.reduceMul, Int.reduceNeg, Int.reduceEq, Nat.reduceMod, forall_eq_or_imp, forall_eq, forall_const, cond_true, cond_false, decide_true, decide_false, true_imp_iff, implies_true, Int.cast_ofNat_Int, forall_eq']
  intro _
  refine lwp_for (α := Unit) p.cs.length (fun _ _ => True) (fun k _ => [(8, .fn 38 [.ptr 1 0 0 0 0, .ptr 2 0 0 0 0, .ptr 3 0 0 0 0]), (9, if k = 0 then .nsl else .sl 5 (k - 1) 1 0 (2 * k)), (23, .rsl 6 p.cs.length (cbsF p.cs)), (24, .sc (.int .i64 p.cs.length)), (25, .sc (.int .i64 k))])
    (fun k _ => (0, .box [.rsl 3 p.ns.length (ndsF p.ns), .rsl 6 p.cs.length (cbsF p.cs)]) :: (0, .box [.rsl 1 L.length (intsF L)]) :: (0, .box [.sc (.int .i64 p.ns.length)]) :: (0, .box [.rsl 1 (plcL L).length (intsF (plcL L))]) :: (if k = 0 then [] else [(0, .box (cbsF p.cs 0)), (k - 1, .ints (crkL p L k))])) () trivial ?_ (fun _ _ => Nat.zero_le _) ?_
  · simp only [if_true]
    simp only [↓EVP0, EVQ0, EVQ1, EVQ2, EVQ3, EVQ4, EVA, EVK, EVF, ↓reduceIte, Nat.reduceEqDiff, Nat.reduceAdd, Nat.reduceSub, Nat.reduceMul, Nat.reduceLT, Nat.reduceLeDiff, reduceCtorEq, Int.reduceToNat, Int.reduceLT, Int.reduceLE, Int.reduceAdd, Int.reduceSub, Int.reduceMul, Int.reduceNeg, Int.reduceEq, Nat.reduceMod, forall_eq_or_imp, forall_eq, forall_const, cond_true, cond_false, decide_true, decide_false, true_imp_iff, implies_true, Int.cast_ofNat_Int, forall_eq']
  intro k _ hk _
  by_cases hk2 : k < p.cs.length
  · have hkd : decide ((k : Int) < p.cs.length) = true := decide_eq_true (by omega)
    have kk : 0 ≤ (k : Int) ∧ (k : Int) < p.cs.length := by omega
    have kI : In64 ((k : Int) + 1) := by unfold In64; omega
    have hcm := hV.cab _ (getD_mem default hk2)
    rw [← hlen] at hcm
    have h4 := h3 (p.cs.getD k default).a (p.cs.getD k default).b hcm.1 hcm.2
    have h5 := h3 (p.cs.getD k default).b (p.cs.getD k default).a hcm.2 hcm.1
    have hcl := crk_len p L k
    have hcs : crkL p L (k + 1) = crkL p L k ++ [rnkE L p.ns.length (p.cs.getD k default).a (p.cs.getD k default).b, rnkE L p.ns.length (p.cs.getD k default).b (p.cs.getD k default).a] := rfl
    by_cases h0 : k = 0
    · subst h0
      rw [if_pos rfl, if_pos rfl, if_neg (by omega), if_neg (by omega)]
      unfold lb20_0
      simp only [↓EVP0, EVQ0, EVQ1, EVQ2, EVQ3, EVQ4, EVA, EVK, EVF, ↓reduceIte, Nat.reduceEqDiff, Nat.reduceAdd, Nat.reduceSub, Nat.reduceMul, Nat.reduceLT, Nat.reduceLeDiff, reduceCtorEq, Int.reduceToNat, Int.reduceLT, Int.reduceLE, Int.reduceAdd, Int.reduceSub, Int.reduceMul, Int.reduceNeg, Int.reduceEq, Nat.reduceMod, forall_eq_or_imp, forall_eq, forall_const, cond_true, cond_false, decide_true, decide_false, true_imp_iff, implies_true, Int.cast_ofNat_Int, forall_eq']
      refine ⟨fun _ => ⟨by omega, ?_⟩, fun h => by have := of_decide_eq_false h; omega⟩
      refine lopsQ_calvI ?_
      simp only [↓EVP0, EVQ0, EVQ1, EVQ2, EVQ3, EVQ4, EVA, EVK, EVF, ↓reduceIte, Nat.reduceEqDiff, Nat.reduceAdd, Nat.reduceSub, Nat.reduceMul, Nat.reduceLT, Nat.reduceLeDiff, reduceCtorEq, Int.reduceToNat, Int.reduceLT, Int.reduceLE, Int.reduceAdd, Int.reduceSub, Int.reduceMul, Int.reduceNeg, Int.reduceEq, Nat.reduceMod, forall_eq_or_imp, forall_eq, forall_const, cond_true, cond_false, decide_true, decide_false, true_imp_iff, implies_true, Int.cast_ofNat_Int, forall_eq']
      refine ⟨by kernel_rfl, qCallK_frzF h4 ⟨roToF_self trivial, roToF_self trivial, roTo2_box (by simp [mkH]) rfl ⟨⟨rfl, trivial⟩, trivial⟩, roTo2_box (by simp [mkH]) rfl ⟨⟨rfl, trivial⟩, trivial⟩, roTo2_box (by simp [mkH]) rfl ⟨⟨rfl, trivial⟩, trivial⟩, trivial⟩ trivial ?_⟩
      simp only [↓EVP0, EVQ0, EVQ1, EVQ2, EVQ3, EVQ4, EVA, EVK, EVF, ↓reduceIte, Nat.reduceEqDiff, Nat.reduceAdd, Nat.reduceSub, Nat.reduceMul, Nat.reduceLT, Nat.reduceLeDiff, reduceCtorEq, Int.reduceToNat, Int.reduceLT, Int.reduceLE, Int.reduceAdd, Int.reduceSub, Int.reduceMul, Int.reduceNeg, Int.reduceEq, Nat.reduceMod, forall_eq_or_imp, forall_eq, forall_const, cond_true, cond_false, decide_true, decide_false, true_imp_iff, implies_true, Int.cast_ofNat_Int, forall_eq']
      refine lopsQ_calvI ?_
      simp only [↓EVP0, EVQ0, EVQ1, EVQ2, EVQ3, EVQ4, EVA, EVK, EVF, ↓reduceIte, Nat.reduceEqDiff, Nat.reduceAdd, Nat.reduceSub, Nat.reduceMul, Nat.reduceLT, Nat.reduceLeDiff, reduceCtorEq, Int.reduceToNat, Int.reduceLT, Int.reduceLE, Int.reduceAdd, Int.reduceSub, Int.reduceMul, Int.reduceNeg, Int.reduceEq, Nat.reduceMod, forall_eq_or_imp, forall_eq, forall_const, cond_true, cond_false, decide_true, decide_false, true_imp_iff, implies_true, Int.cast_ofNat_Int, forall_eq']
      refine ⟨by kernel_rfl, qCallK_frzF h5 ⟨roToF_self trivial, roToF_self trivial, roTo2_box (by simp [mkH]) rfl ⟨⟨rfl, trivial⟩, trivial⟩, roTo2_box (by simp [mkH]) rfl ⟨⟨rfl, trivial⟩, trivial⟩, roTo2_box (by simp [mkH]) rfl ⟨⟨rfl, trivial⟩, trivial⟩, trivial⟩ trivial ?_⟩
      simp only [↓EVP0, EVQ0, EVQ1, EVQ2, EVQ3, EVQ4, EVA, EVK, EVF, ↓reduceIte, Nat.reduceEqDiff, Nat.reduceAdd, Nat.reduceSub, Nat.reduceMul, Nat.reduceLT, Nat.reduceLeDiff, reduceCtorEq, Int.reduceToNat, Int.reduceLT, Int.reduceLE, Int.reduceAdd, Int.reduceSub, Int.reduceMul, Int.reduceNeg, Int.reduceEq, Nat.reduceMod, forall_eq_or_imp, forall_eq, forall_const, cond_true, cond_false, decide_true, decide_false, true_imp_iff, implies_true, Int.cast_ofNat_Int, forall_eq']
      refine ⟨intsF [rnkE L p.ns.length (p.cs.getD 0 default).a (p.cs.getD 0 default).b, rnkE L p.ns.length (p.cs.getD 0 default).b (p.cs.getD 0 default).a], fun i hi => ?_, fun _ _ => trivial, by unfold appRoom; omega, by unfold In64; omega, hk2, (), rfl⟩
      match i, hi with
      | 0, _ => rfl
      | 1, _ => rfl
      | i + 2, hi => omega
    · rw [if_neg h0, if_neg h0, if_neg (by omega), if_neg (by omega)]
      unfold lb20_0
      simp only [hkd, ↓EVP0, EVQ0, EVQ1, EVQ2, EVQ3, EVQ4, EVA, EVK, EVF, ↓reduceIte, Nat.reduceEqDiff, Nat.reduceAdd, Nat.reduceSub, Nat.reduceMul, Nat.reduceLT, Nat.reduceLeDiff, reduceCtorEq, Int.reduceToNat, Int.reduceLT, Int.reduceLE, Int.reduceAdd, Int.reduceSub, Int.reduceMul, Int.reduceNeg, Int.reduceEq, Nat.reduceMod, forall_eq_or_imp, forall_eq, forall_const, cond_true, cond_false, decide_true, decide_false, true_imp_iff, implies_true, Int.cast_ofNat_Int, forall_eq']
      refine ⟨kk, ?_⟩
      refine lopsQ_calvI ?_
      simp only [↓EVP0, EVQ0, EVQ1, EVQ2, EVQ3, EVQ4, EVA, EVK, EVF, ↓reduceIte, Nat.reduceEqDiff, Nat.reduceAdd, Nat.reduceSub, Nat.reduceMul, Nat.reduceLT, Nat.reduceLeDiff, reduceCtorEq, Int.reduceToNat, Int.reduceLT, Int.reduceLE, Int.reduceAdd, Int.reduceSub, Int.reduceMul, Int.reduceNeg, Int.reduceEq, Nat.reduceMod, forall_eq_or_imp, forall_eq, forall_const, cond_true, cond_false, decide_true, decide_false, true_imp_iff, implies_true, Int.cast_ofNat_Int, forall_eq']
      refine ⟨by kernel_rfl, qCallK_frzF h4 ⟨roToF_self trivial, roToF_self trivial, roTo2_box (by simp [mkH]) rfl ⟨⟨rfl, trivial⟩, trivial⟩, roTo2_box (by simp [mkH]) rfl ⟨⟨rfl, trivial⟩, trivial⟩, roTo2_box (by simp [mkH]) rfl ⟨⟨rfl, trivial⟩, trivial⟩, trivial⟩ trivial ?_⟩
      simp only [↓EVP0, EVQ0, EVQ1, EVQ2, EVQ3, EVQ4, EVA, EVK, EVF, ↓reduceIte, Nat.reduceEqDiff, Nat.reduceAdd, Nat.reduceSub, Nat.reduceMul, Nat.reduceLT, Nat.reduceLeDiff, reduceCtorEq, Int.reduceToNat, Int.reduceLT, Int.reduceLE, Int.reduceAdd, Int.reduceSub, Int.reduceMul, Int.reduceNeg, Int.reduceEq, Nat.reduceMod, forall_eq_or_imp, forall_eq, forall_const, cond_true, cond_false, decide_true, decide_false, true_imp_iff, implies_true, Int.cast_ofNat_Int, forall_eq']
      refine lopsQ_calvI ?_
      simp only [↓EVP0, EVQ0, EVQ1, EVQ2, EVQ3, EVQ4, EVA, EVK, EVF, ↓reduceIte, Nat.reduceEqDiff, Nat.reduceAdd, Nat.reduceSub, Nat.reduceMul, Nat.reduceLT, Nat.reduceLeDiff, reduceCtorEq, Int.reduceToNat, Int.reduceLT, Int.reduceLE, Int.reduceAdd, Int.reduceSub, Int.reduceMul, Int.reduceNeg, Int.reduceEq, Nat.reduceMod, forall_eq_or_imp, forall_eq, forall_const, cond_true, cond_false, decide_true, decide_false, true_imp_iff, implies_true, Int.cast_ofNat_Int, forall_eq']
      refine ⟨by kernel_rfl, qCallK_frzF h5 ⟨roToF_self trivial, roToF_self trivial, roTo2_box (by simp [mkH]) rfl ⟨⟨rfl, trivial⟩, trivial⟩, roTo2_box (by simp [mkH]) rfl ⟨⟨rfl, trivial⟩, trivial⟩, roTo2_box (by simp [mkH]) rfl ⟨⟨rfl, trivial⟩, trivial⟩, trivial⟩ trivial ?_⟩
      simp only [↓EVP0, EVQ0, EVQ1, EVQ2, EVQ3, EVQ4, EVA, EVK, EVF, ↓reduceIte, Nat.reduceEqDiff, Nat.reduceAdd, Nat.reduceSub, Nat.reduceMul, Nat.reduceLT, Nat.reduceLeDiff, reduceCtorEq, Int.reduceToNat, Int.reduceLT, Int.reduceLE, Int.reduceAdd, Int.reduceSub, Int.reduceMul, Int.reduceNeg, Int.reduceEq, Nat.reduceMod, forall_eq_or_imp, forall_eq, forall_const, cond_true, cond_false, decide_true, decide_false, true_imp_iff, implies_true, Int.cast_ofNat_Int, forall_eq']
      refine ⟨intsF [rnkE L p.ns.length (p.cs.getD k default).a (p.cs.getD k default).b, rnkE L p.ns.length (p.cs.getD k default).b (p.cs.getD k default).a], fun i hi => ?_, fun _ _ => trivial, by omega, by unfold appRoom; omega, kI, hk2, (), ?_, by omega, ?_⟩
      · match i, hi with
        | 0, _ => rfl
        | 1, _ => rfl
        | i + 2, hi => omega
      · rw [show k - 1 + 1 = k + 1 - 1 by omega]; rfl
      · rw [List.take_of_length_le (by omega)]; rfl
  · obtain rfl : k = p.cs.length := by omega
    have hkd : decide ((p.cs.length : Int) < p.cs.length) = false := decide_eq_false (by omega)
    have hcl := crk_len p L p.cs.length
    by_cases h0 : p.cs.length = 0
    · rw [if_pos h0, if_pos h0]
      unfold lb20_0
      simp only [hkd, ↓EVP0, EVQ0, EVQ1, EVQ2, EVQ3, EVQ4, EVA, EVK, EVF, ↓reduceIte, Nat.reduceEqDiff, Nat.reduceAdd, Nat.reduceSub, Nat.reduceMul, Nat.reduceLT, Nat.reduceLeDiff, reduceCtorEq, Int.reduceToNat, Int.reduceLT, Int.reduceLE, Int.reduceAdd, Int.reduceSub, Int.reduceMul, Int.reduceNeg, Int.reduceEq, Nat.reduceMod, forall_eq_or_imp, forall_eq, forall_const, cond_true, cond_false, decide_true, decide_false, true_imp_iff, implies_true, Int.cast_ofNat_Int, forall_eq']
      omega
    · rw [if_neg h0, if_neg h0]
      unfold lb20_0
      simp only [hkd, ↓EVP0, EVQ0, EVQ1, EVQ2, EVQ3, EVQ4, EVA, EVK, EVF, ↓reduceIte, Nat.reduceEqDiff, Nat.reduceAdd, Nat.reduceSub, Nat.reduceMul, Nat.reduceLT, Nat.reduceLeDiff, reduceCtorEq, Int.reduceToNat, Int.reduceLT, Int.reduceLE, Int.reduceAdd, Int.reduceSub, Int.reduceMul, Int.reduceNeg, Int.reduceEq, Nat.reduceMod, forall_eq_or_imp, forall_eq, forall_const, cond_true, cond_false, decide_true, decide_false, true_imp_iff, implies_true, Int.cast_ofNat_Int, forall_eq']
      exact ⟨hcl, by omega⟩
end Go.Proofs.Yteblljpbnpaplaa
namespace Go.Proofs.Yteblljpbnpaplaa
set_option linter.unusedSimpArgs false
set_option linter.unusedVariables false
open Go.RowKit
set_option maxRecDepth 20000

theorem above_ltE {L : List Int} {i k : Nat} (hi : i < L.length) (hk : k < L.length) : aboveB L (i : Int) (k : Int) = (decide (0 ≤ L.getD i 0) && (decide (0 ≤ L.getD k 0) && ltN L i k)) := by
  unfold aboveB hasB ltN
  rw [decide_eq_true (show 0 ≤ (i : Int) by omega), decide_eq_true (show 0 ≤ (k : Int) by omega), decide_eq_true (show (i : Int) < L.length by omega), decide_eq_true (show (k : Int) < L.length by omega)]
  simp only [Bool.true_and, Int.toNat_natCast]
  rw [show decide ((i : Int) < (k : Int)) = decide (i < k) from decide_eq_decide.2 (by omega)]
def chE (p : Pl) (i s : Nat) : Int × Int := if s = 0 then ((p.cs.getD i default).a, (p.cs.getD i default).b) else ((p.cs.getD i default).b, (p.cs.getD i default).a)
end Go.Proofs.Yteblljpbnpaplaa
namespace Go.Proofs.Yteblljpbnpaplaa
set_option linter.unusedSimpArgs false
set_option linter.unusedVariables false
open Go.RowKit
set_option maxRecDepth 20000

end Go.Proofs.Yteblljpbnpaplaa
namespace Go.Proofs.Yteblljpbnpaplaa
set_option linter.unusedSimpArgs false
set_option linter.unusedVariables false
open Go.RowKit
set_option maxRecDepth 20000

theorem lvl_dist {n : Nat} {U : List Cb} {r x : Int} (hx : inN n x) : lvl (distL n U r) x = distX n U r x := by
  unfold inN at hx
  have := distL_getD (n := n) (U := U) (r := r) (i := x.toNat) (by omega)
  unfold lvl
  rw [this]
  congr 1; omega
theorem distX_zero {n : Nat} {U : List Cb} {r : Int} (hU : CabN n U) (hr : inN n r) (x : Int) : distX n U r x = 0 ↔ x = r := by
  constructor
  · intro h
    rcases distX_cases hU hr x with ⟨h1, _⟩ | ⟨k, h1, _, h3, _⟩
    · omega
    · have : k = 0 := by omega
      subst this
      simpa [W] using h3
  · rintro rfl
    exact distX_of hU hr (k := 0) (by simp [W]) (fun j hj => by omega)
theorem distX_step {n : Nat} {U : List Cb} {r : Int} (hU : CabN n U) (hr : inN n r) {x : Int} (h : 0 < distX n U r x) : ∃ z, nbr U z x ∧ distX n U r z = distX n U r x - 1 := by
  rcases distX_cases hU hr x with ⟨h1, _⟩ | ⟨k, h1, _, h3, h4⟩
  · omega
  · obtain ⟨m, rfl⟩ : ∃ m, k = m + 1 := ⟨k - 1, by omega⟩
    rcases W_succ.1 h3 with h5 | ⟨z, hz, h5⟩
    · rw [h4 m (by omega)] at h5; simp at h5
    · refine ⟨z, hz, ?_⟩
      have : distX n U r z = m := by
        refine distX_of hU hr h5 (fun j hj => ?_)
        cases hj' : W U r j z
        · rfl
        · have := h4 (j + 1) (by omega)
          rw [W_succ.2 (.inr ⟨z, hz, hj'⟩)] at this; simp at this
      rw [this, h1]; omega
theorem countP_range_one (n : Nat) (r : Nat) (hr : r < n) (q : Nat → Bool) (hq : ∀ i, i < n → (q i = true ↔ i = r)) : (List.range n).countP q = 1 := by
  induction n with
  | zero => omega
  | succ n ih =>
    rw [List.range_succ, List.countP_append, List.countP_singleton]
    by_cases e : r = n
    · subst e
      have h0 : (List.range r).countP q = 0 := by
        rw [List.countP_eq_zero]
        intro i hi hqi
        have := (hq i (by have := List.mem_range.1 hi; omega)).1 hqi
        have := List.mem_range.1 hi
        omega
      rw [h0, if_pos ((hq r (by omega)).2 rfl)]
    · rw [ih (by omega) (fun i hi => hq i (by omega)), if_neg]
      intro h
      exact e ((hq n (by omega)).1 h).symm
theorem ord_dist {p : Pl} {up : List Bool} {r : Int} (hv : validE p = 0) (hr : inN p.ns.length r) : ordB p (distL p.ns.length (upU p.cs up) r) = true := by
  have hV := valid_of hv
  have hU := upU_in (n := p.ns.length) (up := up) hV.cab
  unfold ordB
  rw [decide_eq_true hv, decide_eq_true (show (distL p.ns.length (upU p.cs up) r).length = p.ns.length from distL_length)]
  simp only [Bool.true_and, Bool.and_eq_true, List.all_eq_true, List.mem_range, decide_eq_true_eq]
  refine ⟨fun x hx => ?_, ?_, fun i hi => ?_⟩
  · simp only [distL, List.mem_map, List.mem_range] at hx
    obtain ⟨i, hi, rfl⟩ := hx
    unfold rngB
    rcases distX_cases hU hr (i : Int) with ⟨h1, _⟩ | ⟨k, h1, h2, _, _⟩ <;> simp <;> omega
  · unfold distL
    rw [List.countP_map]
    have hr' := hr
    unfold inN at hr'
    refine countP_range_one _ r.toNat (by omega) _ (fun i hi => ?_)
    simp only [Function.comp, isZ, decide_eq_true_eq]
    rw [distX_zero hU hr]
    omega
  · rw [distL_length] at hi
    have hin : inN p.ns.length (i : Int) := ⟨by omega, by omega⟩
    have hgi : (distL p.ns.length (upU p.cs up) r).getD i 0 = distX p.ns.length (upU p.cs up) r i := distL_getD hi
    unfold ledOk
    rw [hgi]
    by_cases h0 : 0 < distX p.ns.length (upU p.cs up) r i
    · obtain ⟨z, hz, hd⟩ := distX_step hU hr h0
      have hzn := (nbr_in hU hz).1
      have : (ledF p (distL p.ns.length (upU p.cs up) r) p.cs.length).getD i false = true := by
        rw [ledF_iff hV.cab i p.cs.length (Nat.le_refl _)]
        obtain ⟨c, hc, hab⟩ := hz
        obtain ⟨j, hj, hu, rfl⟩ := upP_mem.1 hc
        refine ⟨j, hj, ?_⟩
        rcases hab with ⟨ha, hb⟩ | ⟨hb, ha⟩
        · left
          rw [ha, hb, lvl_dist hzn, lvl_dist hin]
          exact ⟨hd, rfl⟩
        · right
          rw [ha, hb, lvl_dist hzn, lvl_dist hin]
          exact ⟨hd, rfl⟩
      rw [this]; simp
    · simp [h0]
theorem of_ok {p : Pl} {up : List Bool} {r : Int} (h : (ofE p up r).2 = 0) : validE p = 0 ∧ up.length = p.cs.length ∧ inN p.ns.length r ∧ ofE p up r = (distL p.ns.length (upU p.cs up) r, 0) := by
  unfold ofE at h ⊢
  cases hu : usableB p up
  · rw [hu] at h; simp at h
  · rw [hu] at h
    cases hr : (decide (r < 0) || decide ((p.ns.length : Int) ≤ r))
    · unfold usableB at hu
      simp at hu hr
      exact ⟨hu.1, hu.2, ⟨by omega, by omega⟩, rfl⟩
    · rw [hr] at h; simp at h

def okC (p : Pl) (L : List Int) (i : Nat) : Bool := !(bif decide (L.getD (p.cs.getD i default).a.toNat 0 < 0) then true else decide (L.getD (p.cs.getD i default).b.toNat 0 < 0))
theorem up_eq {p : Pl} {L : List Int} (ho : ordB p L = true) {i s : Nat} (hi : i < p.cs.length) : upE p L (i : Int) (chE p i s).1 = (bif okC p L i then (aboveB L (chE p i s).2 (chE p i s).1, 0) else (false, 12)) := by
  unfold upE
  have e1 : (bif decide ((i : Int) < 0) then true else decide ((p.cs.length : Int) ≤ i)) = false := by
    rw [decide_eq_false (show ¬ (i : Int) < 0 by omega), decide_eq_false (show ¬ (p.cs.length : Int) ≤ i by omega)]; rfl
  rw [ho, e1]
  simp only [Bool.not_true, cond_false, Int.toNat_natCast]
  unfold okC chE
  by_cases hs : s = 0
  · rw [if_pos hs]
    simp only [decide_true, Bool.not_true, cond_false]
    have e2 : (p.cs.getD i default).a + (p.cs.getD i default).b - (p.cs.getD i default).a = (p.cs.getD i default).b := by omega
    rw [e2]
    cases (bif decide (L.getD (p.cs.getD i default).a.toNat 0 < 0) then true else decide (L.getD (p.cs.getD i default).b.toNat 0 < 0)) <;> rfl
  · rw [if_neg hs]
    have e3 : (bif !decide ((p.cs.getD i default).b = (p.cs.getD i default).a) then !decide ((p.cs.getD i default).b = (p.cs.getD i default).b) else false) = false := by
      rw [decide_eq_true (rfl : (p.cs.getD i default).b = (p.cs.getD i default).b)]
      cases decide ((p.cs.getD i default).b = (p.cs.getD i default).a) <;> rfl
    rw [e3, cond_false]
    have e2 : (p.cs.getD i default).a + (p.cs.getD i default).b - (p.cs.getD i default).b = (p.cs.getD i default).a := by omega
    rw [e2]
    cases (bif decide (L.getD (p.cs.getD i default).a.toNat 0 < 0) then true else decide (L.getD (p.cs.getD i default).b.toNat 0 < 0)) <;> rfl
theorem crk_get {p : Pl} {L : List Int} {i s : Nat} (hs : s < 2) : ∀ {k : Nat}, i < k → (crkL p L k).getD (2 * i + s) 0 = rnkE L p.ns.length (chE p i s).1 (chE p i s).2
  | k + 1, h => by
    have hl := crk_len p L k
    unfold crkL
    by_cases e : i = k
    · subst e
      obtain rfl | rfl : s = 0 ∨ s = 1 := by omega
      · rw [List.getD_eq_getElem?_getD, List.getElem?_append_right (by omega), hl, show 2 * i + 0 - 2 * i = 0 by omega]; rfl
      · rw [List.getD_eq_getElem?_getD, List.getElem?_append_right (by omega), hl, show 2 * i + 1 - 2 * i = 1 by omega]; rfl
    · rw [getD_appL (by omega)]
      exact crk_get hs (by omega)
theorem ev_ends (p : Pl) (hp : PlOk p) (L : List Int) (ho : ordB p L = true) (c : Nat) (hc : c < 2 * p.cs.length) : Ev Try.prog 26 [.sc (.int .i64 c), .rptr [.rsl 3 p.ns.length (ndsF p.ns), .rsl 6 p.cs.length (cbsF p.cs)], .rptr [intsV L]]
    (.tup [.sc (.int .i64 (chE p (c / 2) (c % 2)).1), .sc (.int .i64 (chE p (c / 2) (c % 2)).2), .sc (.bool (bif okC p L (c / 2) then aboveB L (chE p (c / 2) (c % 2)).2 (chE p (c / 2) (c % 2)).1 else false)), .sc (.bool (okC p L (c / 2)))]) := by
  have hd : (c : Int).tdiv 2 = ((c / 2 : Nat) : Int) := (Int.ofNat_tdiv c 2).symm
  have hm : (c : Int).tmod 2 = ((c % 2 : Nat) : Int) := (Int.ofNat_tmod c 2).symm
  have h1 := fun x => ev_upward p hp L ((c / 2 : Nat) : Int) x
  have hi : c / 2 < p.cs.length := by omega
  have hc32 := (valid_of (ord_of ho).v).c32
  have hue := up_eq ho (s := c % 2) hi
  have hs : c % 2 < 2 := Nat.mod_lt _ (by decide)
  unfold plV intsV at *
  refine ev_fn Try.func26 comp26 (show 3 ≤ Try.f26.ntmps by decide) ?_; unfold cf26 rf26; simp only [↓EVP0, EVQ0, EVQ1, EVQ2, EVQ3, EVQ4, EVA, EVK, EVF,EVFE, ↓reduceIte, Nat.reduceEqDiff, Nat.reduceAdd, Nat.reduceSub, Nat.reduceMul, Nat.reduceLT, Nat.reduceLeDiff, reduceCtorEq, Int.reduceToNat, Int.reduceLT, Int.reduceLE, Int.reduceAdd, Int.reduceSub, Int.reduceMul, Int.reduceNeg, Int.reduceEq, Nat.reduceMod, forall_eq_or_imp, forall_eq, forall_const, cond_true, cond_false, decide_true, decide_false, true_imp_iff, implies_true, Int.cast_ofNat_Int, forall_eq']
  simp only [hd, hm, ↓EVP0, EVQ0, EVQ1, EVQ2, EVQ3, EVQ4, EVA, EVK, EVF,EVFE, ↓reduceIte, Nat.reduceEqDiff, Nat.reduceAdd, Nat.reduceSub, Nat.reduceMul, Nat.reduceLT, Nat.reduceLeDiff, reduceCtorEq, Int.reduceToNat, Int.reduceLT, Int.reduceLE, Int.reduceAdd, Int.reduceSub, Int.reduceMul, Int.reduceNeg, Int.reduceEq, Nat.reduceMod, forall_eq_or_imp, forall_eq, forall_const, cond_true, cond_false, decide_true, decide_false, true_imp_iff, implies_true, Int.cast_ofNat_Int, forall_eq']
  have b1 : (2 : Int) ≠ 0 ∧ In64 ((c / 2 : Nat) : Int) := ⟨by decide, by unfold In64; omega⟩
  have b2 : 0 ≤ ((c / 2 : Nat) : Int) ∧ ((c / 2 : Nat) : Int) < p.cs.length := by omega
  refine ⟨b1, b2, b1, b2, by decide, fun h => ⟨b1, ?_⟩, fun h => ⟨b1, ?_⟩⟩
  · have hs1 : c % 2 = 1 := by have := of_decide_eq_true h; omega
    rw [hs1] at hue ⊢
    have hu1 : chE p (c / 2) 1 = ((p.cs.getD (c / 2) default).b, (p.cs.getD (c / 2) default).a) := rfl
    rw [hu1] at hue ⊢
    have h2 := h1 (p.cs.getD (c / 2) default).b
    rw [hue] at h2
    refine callK_ro (h2) ?_ ?_
    · simp only [↓EVP0, EVQ0, EVQ1, EVQ2, EVQ3, EVQ4, EVA, EVK, EVF,EVFE, ↓reduceIte, Nat.reduceEqDiff, Nat.reduceAdd, Nat.reduceSub, Nat.reduceMul, Nat.reduceLT, Nat.reduceLeDiff, reduceCtorEq, Int.reduceToNat, Int.reduceLT, Int.reduceLE, Int.reduceAdd, Int.reduceSub, Int.reduceMul, Int.reduceNeg, Int.reduceEq, Nat.reduceMod, forall_eq_or_imp, forall_eq, forall_const, cond_true, cond_false, decide_true, decide_false, true_imp_iff, implies_true, Int.cast_ofNat_Int, forall_eq']
    simp only [↓EVP0, EVQ0, EVQ1, EVQ2, EVQ3, EVQ4, EVA, EVK, EVF,EVFE, ↓reduceIte, Nat.reduceEqDiff, Nat.reduceAdd, Nat.reduceSub, Nat.reduceMul, Nat.reduceLT, Nat.reduceLeDiff, reduceCtorEq, Int.reduceToNat, Int.reduceLT, Int.reduceLE, Int.reduceAdd, Int.reduceSub, Int.reduceMul, Int.reduceNeg, Int.reduceEq, Nat.reduceMod, forall_eq_or_imp, forall_eq, forall_const, cond_true, cond_false, decide_true, decide_false, true_imp_iff, implies_true, Int.cast_ofNat_Int, forall_eq']
    rw [show ((c : Int).tdiv 2).toNat = c / 2 by rw [hd]; rfl]
    cases okC p L (c / 2) <;> exact ⟨rfl, rfl, rfl, rfl⟩
  · have hs1 : c % 2 = 0 := by have := of_decide_eq_false h; omega
    rw [hs1] at hue ⊢
    have hu1 : chE p (c / 2) 0 = ((p.cs.getD (c / 2) default).a, (p.cs.getD (c / 2) default).b) := rfl
    rw [hu1] at hue ⊢
    have h2 := h1 (p.cs.getD (c / 2) default).a
    rw [hue] at h2
    refine callK_ro (h2) ?_ ?_
    · simp only [↓EVP0, EVQ0, EVQ1, EVQ2, EVQ3, EVQ4, EVA, EVK, EVF,EVFE, ↓reduceIte, Nat.reduceEqDiff, Nat.reduceAdd, Nat.reduceSub, Nat.reduceMul, Nat.reduceLT, Nat.reduceLeDiff, reduceCtorEq, Int.reduceToNat, Int.reduceLT, Int.reduceLE, Int.reduceAdd, Int.reduceSub, Int.reduceMul, Int.reduceNeg, Int.reduceEq, Nat.reduceMod, forall_eq_or_imp, forall_eq, forall_const, cond_true, cond_false, decide_true, decide_false, true_imp_iff, implies_true, Int.cast_ofNat_Int, forall_eq']
    simp only [↓EVP0, EVQ0, EVQ1, EVQ2, EVQ3, EVQ4, EVA, EVK, EVF,EVFE, ↓reduceIte, Nat.reduceEqDiff, Nat.reduceAdd, Nat.reduceSub, Nat.reduceMul, Nat.reduceLT, Nat.reduceLeDiff, reduceCtorEq, Int.reduceToNat, Int.reduceLT, Int.reduceLE, Int.reduceAdd, Int.reduceSub, Int.reduceMul, Int.reduceNeg, Int.reduceEq, Nat.reduceMod, forall_eq_or_imp, forall_eq, forall_const, cond_true, cond_false, decide_true, decide_false, true_imp_iff, implies_true, Int.cast_ofNat_Int, forall_eq']
    rw [show ((c : Int).tdiv 2).toNat = c / 2 by rw [hd]; rfl]
    cases okC p L (c / 2) <;> exact ⟨rfl, rfl, rfl, rfl⟩
theorem turn_lt {p : Pl} {L : List Int} (ho : ordB p L = true) {c d : Nat} (hc : c < 2 * p.cs.length) (hd : d < 2 * p.cs.length) (oc : okC p L (c / 2) = true) (od : okC p L (d / 2) = true)
    (hm : (chE p (d / 2) (d % 2)).1 = (chE p (c / 2) (c % 2)).2) (hr : aboveB L (chE p (c / 2) (c % 2)).2 (chE p (c / 2) (c % 2)).1 = true ∨ aboveB L (chE p (d / 2) (d % 2)).2 (chE p (d / 2) (d % 2)).1 = false) :
    (crkL p L p.cs.length).getD c 0 < (crkL p L p.cs.length).getD d 0 := by
  have hO := ord_of ho
  have hV := valid_of hO.v
  have hlen := hO.len
  have g : ∀ x, x < 2 * p.cs.length → okC p L (x / 2) = true → (crkL p L p.cs.length).getD x 0 = (if aboveB L (chE p (x / 2) (x % 2)).2 (chE p (x / 2) (x % 2)).1 = true then (p.ns.length : Int) - 1 - plF L (chE p (x / 2) (x % 2)).1.toNat else p.ns.length + plF L (chE p (x / 2) (x % 2)).2.toNat) ∧ inN L.length (chE p (x / 2) (x % 2)).1 ∧ inN L.length (chE p (x / 2) (x % 2)).2 ∧ 0 ≤ lvl L (chE p (x / 2) (x % 2)).1 ∧ 0 ≤ lvl L (chE p (x / 2) (x % 2)).2 ∧ (chE p (x / 2) (x % 2)).1 ≠ (chE p (x / 2) (x % 2)).2 := by
    intro x hx ox
    have hs : x % 2 < 2 := Nat.mod_lt _ (by decide)
    have h1 := crk_get (p := p) (L := L) (i := x / 2) (s := x % 2) hs (k := p.cs.length) (by omega)
    rw [show 2 * (x / 2) + x % 2 = x by omega] at h1
    have hmem := getD_mem default (show x / 2 < p.cs.length by omega)
    have hab := hV.cab _ hmem
    have hne := hV.self _ hmem
    have hla : 0 ≤ lvl L (p.cs.getD (x / 2) default).a ∧ 0 ≤ lvl L (p.cs.getD (x / 2) default).b := by
      unfold okC at ox
      unfold lvl
      cases e1 : decide (L.getD (p.cs.getD (x / 2) default).a.toNat 0 < 0)
      · cases e2 : decide (L.getD (p.cs.getD (x / 2) default).b.toNat 0 < 0)
        · have := of_decide_eq_false e1
          have := of_decide_eq_false e2
          omega
        · rw [e1, e2] at ox; simp at ox
      · rw [e1] at ox; simp at ox
    rw [← hlen] at hab
    have hend : inN L.length (chE p (x / 2) (x % 2)).1 ∧ inN L.length (chE p (x / 2) (x % 2)).2 ∧ 0 ≤ lvl L (chE p (x / 2) (x % 2)).1 ∧ 0 ≤ lvl L (chE p (x / 2) (x % 2)).2 ∧ (chE p (x / 2) (x % 2)).1 ≠ (chE p (x / 2) (x % 2)).2 := by
      unfold chE
      by_cases e : x % 2 = 0
      · rw [if_pos e]; exact ⟨hab.1, hab.2, hla.1, hla.2, hne⟩
      · rw [if_neg e]; exact ⟨hab.2, hab.1, hla.2, hla.1, fun h => hne h.symm⟩
    refine ⟨?_, hend⟩
    rw [h1]
    unfold rnkE
    rw [decide_eq_false (show ¬ lvl L (chE p (x / 2) (x % 2)).1 < 0 by omega), decide_eq_false (show ¬ lvl L (chE p (x / 2) (x % 2)).2 < 0 by omega)]
    cases aboveB L (chE p (x / 2) (x % 2)).2 (chE p (x / 2) (x % 2)).1 <;> rfl
  obtain ⟨c1, c2, c3, c4, c5, c6⟩ := g c hc oc
  obtain ⟨d1, d2, d3, d4, d5, d6⟩ := g d hd od
  rw [c1, d1]
  generalize (chE p (c / 2) (c % 2)).1 = u at *
  generalize (chE p (c / 2) (c % 2)).2 = m at *
  rw [hm] at d1 d2 d4 d6 hr
  rw [hm]
  generalize (chE p (d / 2) (d % 2)).2 = w at *
  unfold inN at c2 c3 d3
  obtain ⟨un, rfl⟩ := Int.eq_ofNat_of_zero_le c2.1
  obtain ⟨mn, rfl⟩ := Int.eq_ofNat_of_zero_le c3.1
  obtain ⟨wn, rfl⟩ := Int.eq_ofNat_of_zero_le d3.1
  unfold lvl at c4 c5 d5
  simp only [Int.toNat_natCast] at *
  have ul : un < L.length := by omega
  have ml : mn < L.length := by omega
  have wl : wn < L.length := by omega
  have us := srt_mem.2 ⟨ul, c4⟩
  have ms := srt_mem.2 ⟨ml, c5⟩
  have ws := srt_mem.2 ⟨wl, d5⟩
  have pm : 0 ≤ plF L mn := by rw [plF_yes ms]; omega
  have pu : 0 ≤ plF L un := by rw [plF_yes us]; omega
  have pw : 0 ≤ plF L wn := by rw [plF_yes ws]; omega
  have oa : ∀ x y, x < L.length → y < L.length → 0 ≤ L.getD x 0 → 0 ≤ L.getD y 0 → x ∈ srtN L → y ∈ srtN L → (aboveB L (x : Int) (y : Int) = true ↔ plF L x < plF L y) := fun x y hx hy h1 h2 h3 h4 => by
    rw [above_ltE hx hy, decide_eq_true h1, decide_eq_true h2, Bool.true_and, Bool.true_and, plF_ord h3 h4]
  have a1 := oa mn un ml ul c5 c4 ms us
  have a2 := oa wn mn wl ml d5 c5 ws ms
  have hne : plF L mn ≠ plF L wn := fun e => d6 (by rw [plF_inj e pm])
  by_cases h1 : aboveB L (mn : Int) (un : Int) = true
  · rw [if_pos h1]
    by_cases h2 : aboveB L (wn : Int) (mn : Int) = true
    · rw [if_pos h2]; have := a1.1 h1; omega
    · rw [if_neg h2]; omega
  · rw [if_neg h1]
    have h2 : ¬ aboveB L (wn : Int) (mn : Int) = true := by
      rcases hr with h | h
      · exact absurd h h1
      · rw [h]; simp
    rw [if_neg h2]
    have : ¬ plF L wn < plF L mn := fun h => h2 (a2.2 h)
    omega
end Go.Proofs.Yteblljpbnpaplaa
